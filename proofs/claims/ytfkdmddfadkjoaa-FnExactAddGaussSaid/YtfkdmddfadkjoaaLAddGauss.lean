/- The walk of the law FnExactAddGauss, printed by lawgen.py off the law's own text. -/
import Derived.Test.YtfkdmddfadkjoaaKAddGauss
import Derived.Deep.CutRange
import Derived.Deep.DeepCutAuto
import Derived.Deep.RegionHeld3
import Derived.Test.YtfkdmddfadkjoaaCut
namespace Go.Proofs.Ytfkdmddfadkjoaa
open Go.RowKit

set_option maxRecDepth 100000 in
set_option maxHeartbeats 4000000 in
theorem walk_FnExactAddGauss (A0 : Option Addr) (n0 c0 : Nat) (z0 : List Int) (a1 j1 : Int) (a2 : Int) (w : World) (r0 : Ints w A0 n0 z0) (m0 : n0 ≤ maxLen) (_f0 : ∀ x ∈ z0, (Lit.int .i64 x).wf = true) (_w1 : (Lit.int .i64 a1).wf = true) (_v1 : (Lit.int .i64 j1).wf = true) (_w2 : (Lit.int .i64 a2).wf = true) :
    Calls Try.prog 6 #[.slice A0 n0 c0, .agg #[.int .i64 a1, .int .i64 j1], .int .i64 a2] w fun e w' => e = .returned (.bool true) ∧ Below w.heap.size w w' := by
  unfold maxLen at m0
  rcases Nat.lt_or_ge 1048576 n0 with g0 | g0
  · go_enter Try.func6, Try.ntmps6
    go_wp2
    go_ret
    exact ⟨rfl, ((Below.refl w.heap.size w).alloc (by simp; try omega) (.cells #[.int .i64 a1, .int .i64 j1] 24))⟩
  go_enter Try.func6, Try.ntmps6
  have B0 : Below w.heap.size w w := Below.refl _ _
  go_wp2_with fail
  have b1 : Below w.heap.size w (w.alloc (.cells #[.int .i64 a1, .int .i64 j1] 24)) := below_new _ _
  have x1 : (w.alloc (.cells #[.int .i64 a1, .int .i64 j1] 24)).heap[w.heap.size]? = some (.cells #[.int .i64 a1, .int .i64 j1] 24 (0, 0)) := box_new _ _ _
  generalize w.alloc (.cells #[.int .i64 a1, .int .i64 j1] 24) = w1 at b1 x1 ⊢
  have B1 := B0.trans (b1.mono B0.size)
  have S1 := b1.size
  clear b1
  have Z0 := Lib.hid B0
  clear B0 Z0
  have cx1 := box_cell x1 0 _ rfl
  have dx1 := box_cell x1 1 _ rfl
  have lx1 := lt_of_block x1
  have mx1 := lt_of_block x1
  have ri1 := r0.below B1
  go_cut [7, 8] (fun u0 u1 wx => ∃ A c, u0 = .slice A (lV (addGauR z0 a1 j1 a2)).length c ∧ u1 = .bool (lB (addGauR z0 a1 j1 a2)) ∧ OwnI wx w1.heap.size wx.heap.size A (lV (addGauR z0 a1 j1 a2)).length c (lV (addGauR z0 a1 j1 a2)) ∧ Below w1.heap.size w1 wx)
  case first =>
    have B90 := (Below.refl w1.heap.size w1).drew
    have x190 : w1.drew.heap[w.heap.size]? = _ := x1
    have HI0 : Ints w1.drew A0 n0 z0 := ri1
    go_region_held3 (fun w' => w'.cell? ⟨w.heap.size, 0, none⟩ = some (.int .i64 a1) ∧ w'.cell? ⟨w.heap.size, 1, none⟩ = some (.int .i64 j1)) (first | exact ⟨S0, S1⟩ | exact ⟨F0, F1⟩ | exact ⟨I0, I1⟩ | exact ⟨box_cell x190 0 _ rfl, box_cell x190 1 _ rfl⟩ | go_keep) (first
          | (go_at_call 12; refine (toIntS_law _ _ _ z0 _ (by first | exact HIF | exact HI0) (by omega)).mono ?_; rintro e wI ⟨AI, cI, rfl, oI, bI⟩; (first | (have BI := keepB BF (Nat.le_refl _) bI; have xI := box_below xF bI; have oF := oI) | (have BI := keepB B90 (Nat.le_refl _) bI; have xI := box_below x190 bI)); have I0 := box_cell xI 0 _ rfl; have I1 := box_cell xI 1 _ rfl)
          | (go_at_call 13; refine (toFrac_any _ _ _).mono ?_; rintro e wF ⟨rfl, bF⟩; (first | (have BF := keepB BI (Nat.le_refl _) bF; have xF := box_below xI bF; have oF := oI.below bF) | (have BF := keepB B90 (Nat.le_refl _) bF; have xF := box_below x190 bF; have HIF := HI0.below bF)); have F0 := box_cell xF 0 _ rfl; have F1 := box_cell xF 1 _ rfl)
          | (go_at_call 24; refine (specAddGauss_law _ _ _ z0 _ _ _ _ oF.ints oF.small).mono ?_; rintro e wS ⟨AS, cS, rfl, oS, bS⟩; (first | (have BS := keepB BF (Nat.le_refl _) bS; have xS := box_below xF bS; have OS : OwnI wS w1.heap.size wS.heap.size _ _ _ _ := OwnI.fit oS BF.size) | (have BS := keepB BI (Nat.le_refl _) bS; have xS := box_below xI bS; have OS : OwnI wS w1.heap.size wS.heap.size _ _ _ _ := OwnI.fit oS BI.size)); have S0 := box_cell xS 0 _ rfl; have S1 := box_cell xS 1 _ rfl))
    all_goals (go_wp2_with fail; go_meet; exact ⟨_, _, rfl, rfl, OS, BS⟩)
  case rest =>
  obtain ⟨A_w0, c_w0, rfl, rfl, o_w0, b2⟩ := hcut
  clear ri1
  generalize wc = w2 at *
  have B2 := B1.trans (b2.mono B1.size)
  have S2 := b2.size
  replace x1 := (b2.block _ (lt_of_block x1)).trans x1
  replace lx1 := lt_of_block x1
  clear cx1 dx1
  have cx1 := box_cell x1 0 _ rfl
  have dx1 := box_cell x1 1 _ rfl
  clear b2
  have Z1 := Lib.hid B1
  clear B1 Z1
  go_wp2_with fail
  refine (toIntS_law _ _ _ _ _ (r0.below B2) (by omega)).mono ?_
  rintro e w3 ⟨A_t1, c_t1, rfl, o_t1, b3⟩
  have B3 := B2.trans (b3.mono B2.size)
  have S3 := b3.size
  replace x1 := (b3.block _ (lt_of_block x1)).trans x1
  replace lx1 := lt_of_block x1
  clear cx1 dx1
  have cx1 := box_cell x1 0 _ rfl
  have dx1 := box_cell x1 1 _ rfl
  replace o_w0 := o_w0.below b3
  clear b3
  have Z2 := Lib.hid B2
  clear B2 Z2
  go_wp2_with fail
  refine (toFrac_any _ _ _).mono ?_
  rintro e w4 ⟨rfl, b4⟩
  have B4 := B3.trans (b4.mono B3.size)
  have S4 := b4.size
  replace x1 := (b4.block _ (lt_of_block x1)).trans x1
  replace lx1 := lt_of_block x1
  clear cx1 dx1
  have cx1 := box_cell x1 0 _ rfl
  have dx1 := box_cell x1 1 _ rfl
  replace o_w0 := o_w0.below b4
  replace o_t1 := o_t1.below b4
  clear b4
  have Z3 := Lib.hid B3
  clear B3 Z3
  go_wp2_with fail
  refine (implAddGauss_law _ _ _ _ _ _ _ _ o_t1.ints o_t1.small).mono ?_
  rintro e w5 ⟨A_g0, c_g0, rfl, o_g0, b5⟩
  have B5 := B4.trans (b5.mono B4.size)
  have S5 := b5.size
  replace x1 := (b5.block _ (lt_of_block x1)).trans x1
  replace lx1 := lt_of_block x1
  clear cx1 dx1
  have cx1 := box_cell x1 0 _ rfl
  have dx1 := box_cell x1 1 _ rfl
  replace o_w0 := o_w0.below b5
  replace o_t1 := o_t1.below b5
  clear b5
  have Z4 := Lib.hid B4
  clear B4 Z4
  go_wp2_with fail
  refine (eqIntS_law _ _ _ _ _ _ _ o_g0.ints o_w0.ints o_g0.small).mono ?_
  rintro e w6 ⟨rfl, b6⟩
  have B6 := B5.trans (b6.mono B5.size)
  have S6 := b6.size
  replace x1 := (b6.block _ (lt_of_block x1)).trans x1
  replace lx1 := lt_of_block x1
  clear cx1 dx1
  have cx1 := box_cell x1 0 _ rfl
  have dx1 := box_cell x1 1 _ rfl
  replace o_w0 := o_w0.below b6
  replace o_t1 := o_t1.below b6
  replace o_g0 := o_g0.below b6
  clear b6
  have Z5 := Lib.hid B5
  clear B5 Z5
  go_wp2_with fail
  refine (toIntS_law _ _ _ _ _ (r0.below B6) (by omega)).mono ?_
  rintro e w7 ⟨A_t2, c_t2, rfl, o_t2, b7⟩
  have B7 := B6.trans (b7.mono B6.size)
  have S7 := b7.size
  replace x1 := (b7.block _ (lt_of_block x1)).trans x1
  replace lx1 := lt_of_block x1
  clear cx1 dx1
  have cx1 := box_cell x1 0 _ rfl
  have dx1 := box_cell x1 1 _ rfl
  replace o_w0 := o_w0.below b7
  replace o_t1 := o_t1.below b7
  replace o_g0 := o_g0.below b7
  clear b7
  have Z6 := Lib.hid B6
  clear B6 Z6
  go_wp2_with fail
  refine (eqIntS_law _ _ _ _ _ _ _ o_t1.ints o_t2.ints o_t1.small).mono ?_
  rintro e w8 ⟨rfl, b8⟩
  have B8 := B7.trans (b8.mono B7.size)
  have S8 := b8.size
  replace x1 := (b8.block _ (lt_of_block x1)).trans x1
  replace lx1 := lt_of_block x1
  clear cx1 dx1
  have cx1 := box_cell x1 0 _ rfl
  have dx1 := box_cell x1 1 _ rfl
  replace o_w0 := o_w0.below b8
  replace o_t1 := o_t1.below b8
  replace o_g0 := o_g0.below b8
  replace o_t2 := o_t2.below b8
  clear b8
  have Z7 := Lib.hid B7
  clear B7 Z7
  clear o_t2
  go_wp2_with fail
  have s_w0 := o_w0.small
  have s_t1 := o_t1.small
  have s_g0 := o_g0.small
  have p_t1 := o_t1
  clear o_t1
  refine (markIntS_law _ _ _ _ _ _ _ _ p_t1 (by omega) (by omega)).mono ?_
  rintro e w9 ⟨rfl, o_t1, b9⟩
  have B9 := b9.below B8 (by omega) B8.size
  have S9 := b9.size
  replace x1 := (b9.block _ (lt_of_block x1) (by omega)).trans x1
  replace lx1 := lt_of_block x1
  clear cx1 dx1
  have cx1 := box_cell x1 0 _ rfl
  have dx1 := box_cell x1 1 _ rfl
  replace o_w0 := o_w0.chg b9 (by omega)
  replace o_g0 := o_g0.chg b9 (by omega)
  clear b9
  have Z8 := Lib.hid B8
  clear B8 Z8
  clear p_t1
  go_wp2_with fail
  refine (eqIntS_law _ _ _ _ _ _ _ o_g0.ints o_w0.ints o_g0.small).mono ?_
  rintro e w10 ⟨rfl, b10⟩
  have B10 := B9.trans (b10.mono B9.size)
  have S10 := b10.size
  replace x1 := (b10.block _ (lt_of_block x1)).trans x1
  replace lx1 := lt_of_block x1
  clear cx1 dx1
  have cx1 := box_cell x1 0 _ rfl
  have dx1 := box_cell x1 1 _ rfl
  replace o_w0 := o_w0.below b10
  replace o_t1 := o_t1.below b10
  replace o_g0 := o_g0.below b10
  clear b10
  have Z9 := Lib.hid B9
  clear B9 Z9
  go_wp2_with fail
  have p_g0 := o_g0
  clear o_g0
  refine (markIntS_law _ _ _ _ _ _ _ _ p_g0 (by omega) (by omega)).mono ?_
  rintro e w11 ⟨rfl, o_g0, b11⟩
  have B11 := b11.below B10 (by omega) B10.size
  have S11 := b11.size
  replace x1 := (b11.block _ (lt_of_block x1) (by omega)).trans x1
  replace lx1 := lt_of_block x1
  clear cx1 dx1
  have cx1 := box_cell x1 0 _ rfl
  have dx1 := box_cell x1 1 _ rfl
  replace o_w0 := o_w0.chg b11 (by omega)
  replace o_t1 := o_t1.chg b11 (by omega)
  clear b11
  have Z10 := Lib.hid B10
  clear B10 Z10
  clear p_g0
  go_wp2_with fail
  refine (heldIntS_law _ _ _ _ _ o_g0.ints o_g0.small (by omega) (by omega)).mono ?_
  rintro e w12 ⟨rfl, b12⟩
  have B12 := B11.trans (b12.mono B11.size)
  have S12 := b12.size
  replace x1 := (b12.block _ (lt_of_block x1)).trans x1
  replace lx1 := lt_of_block x1
  clear cx1 dx1
  have cx1 := box_cell x1 0 _ rfl
  have dx1 := box_cell x1 1 _ rfl
  replace o_w0 := o_w0.below b12
  replace o_t1 := o_t1.below b12
  replace o_g0 := o_g0.below b12
  clear b12
  have Z11 := Lib.hid B11
  clear B11 Z11
  go_wp2_with fail
  have ri12 := r0.below B12
  go_cut [15, 16] (fun u0 u1 wx => ∃ A c, u0 = .slice A (lV (addGauR z0 a1 j1 a2)).length c ∧ u1 = .bool (lB (addGauR z0 a1 j1 a2)) ∧ OwnI wx w12.heap.size wx.heap.size A (lV (addGauR z0 a1 j1 a2)).length c (lV (addGauR z0 a1 j1 a2)) ∧ Below w12.heap.size w12 wx)
  case first =>
    have B90 := (Below.refl w12.heap.size w12).drew
    have x190 : w12.drew.heap[w.heap.size]? = _ := x1
    have HI0 : Ints w12.drew A0 n0 z0 := ri12
    go_region_held3 (fun w' => w'.cell? ⟨w.heap.size, 0, none⟩ = some (.int .i64 a1) ∧ w'.cell? ⟨w.heap.size, 1, none⟩ = some (.int .i64 j1)) (first | exact ⟨S0, S1⟩ | exact ⟨F0, F1⟩ | exact ⟨I0, I1⟩ | exact ⟨box_cell x190 0 _ rfl, box_cell x190 1 _ rfl⟩ | go_keep) (first
          | (go_at_call 12; refine (toIntS_law _ _ _ z0 _ (by first | exact HIF | exact HI0) (by omega)).mono ?_; rintro e wI ⟨AI, cI, rfl, oI, bI⟩; (first | (have BI := keepB BF (Nat.le_refl _) bI; have xI := box_below xF bI; have oF := oI) | (have BI := keepB B90 (Nat.le_refl _) bI; have xI := box_below x190 bI)); have I0 := box_cell xI 0 _ rfl; have I1 := box_cell xI 1 _ rfl)
          | (go_at_call 13; refine (toFrac_any _ _ _).mono ?_; rintro e wF ⟨rfl, bF⟩; (first | (have BF := keepB BI (Nat.le_refl _) bF; have xF := box_below xI bF; have oF := oI.below bF) | (have BF := keepB B90 (Nat.le_refl _) bF; have xF := box_below x190 bF; have HIF := HI0.below bF)); have F0 := box_cell xF 0 _ rfl; have F1 := box_cell xF 1 _ rfl)
          | (go_at_call 25; refine (implAddGauss_law _ _ _ z0 _ _ _ _ oF.ints oF.small).mono ?_; rintro e wS ⟨AS, cS, rfl, oS, bS⟩; (first | (have BS := keepB BF (Nat.le_refl _) bS; have xS := box_below xF bS; have OS : OwnI wS w12.heap.size wS.heap.size _ _ _ _ := OwnI.fit oS BF.size) | (have BS := keepB BI (Nat.le_refl _) bS; have xS := box_below xI bS; have OS : OwnI wS w12.heap.size wS.heap.size _ _ _ _ := OwnI.fit oS BI.size)); have S0 := box_cell xS 0 _ rfl; have S1 := box_cell xS 1 _ rfl))
    all_goals (go_wp2_with fail; go_meet; exact ⟨_, _, rfl, rfl, OS, BS⟩)
  case rest =>
  obtain ⟨A_h0, c_h0, rfl, rfl, o_h0, b13⟩ := hcut
  clear ri12
  generalize wc = w13 at *
  have B13 := B12.trans (b13.mono B12.size)
  have S13 := b13.size
  replace x1 := (b13.block _ (lt_of_block x1)).trans x1
  replace lx1 := lt_of_block x1
  clear cx1 dx1
  have cx1 := box_cell x1 0 _ rfl
  have dx1 := box_cell x1 1 _ rfl
  replace o_w0 := o_w0.below b13
  replace o_t1 := o_t1.below b13
  replace o_g0 := o_g0.below b13
  clear b13
  have Z12 := Lib.hid B12
  clear B12 Z12
  go_wp2_with fail
  refine (eqIntS_law _ _ _ _ _ _ _ o_h0.ints o_w0.ints o_h0.small).mono ?_
  rintro e w14 ⟨rfl, b14⟩
  have B14 := B13.trans (b14.mono B13.size)
  have S14 := b14.size
  replace x1 := (b14.block _ (lt_of_block x1)).trans x1
  replace lx1 := lt_of_block x1
  clear cx1 dx1
  have cx1 := box_cell x1 0 _ rfl
  have dx1 := box_cell x1 1 _ rfl
  replace o_w0 := o_w0.below b14
  replace o_t1 := o_t1.below b14
  replace o_g0 := o_g0.below b14
  replace o_h0 := o_h0.below b14
  clear b14
  have Z13 := Lib.hid B13
  clear B13 Z13
  go_wp2_with fail
  refine (heldIntS_law _ _ _ _ _ o_g0.ints o_g0.small (by omega) (by omega)).mono ?_
  rintro e w15 ⟨rfl, b15⟩
  have B15 := B14.trans (b15.mono B14.size)
  have S15 := b15.size
  replace x1 := (b15.block _ (lt_of_block x1)).trans x1
  replace lx1 := lt_of_block x1
  clear cx1 dx1
  have cx1 := box_cell x1 0 _ rfl
  have dx1 := box_cell x1 1 _ rfl
  replace o_w0 := o_w0.below b15
  replace o_t1 := o_t1.below b15
  replace o_g0 := o_g0.below b15
  replace o_h0 := o_h0.below b15
  clear b15
  have Z14 := Lib.hid B14
  clear B14 Z14
  go_wp2
  go_ret
  exact ⟨rfl, B15⟩
end Go.Proofs.Ytfkdmddfadkjoaa
