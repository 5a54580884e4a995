/- The walk of the law FnCellKeys, printed by gck.py. -/
import Derived.Test.YtgeilnkglbcmeaaCkP
import Derived.Test.YtgeilnkglbcmeaaDrQ
namespace Go.Proofs.Ytgeilnkglbcmeaa
open Go.RowKit

theorem DVr.readS {w : World} {lo n c : Nat} {A : Option Addr} {vs : List (ByteArray × Int)} (h : DVr w lo A n c vs) (hn : n ≤ 8) : SchR w A n c vs := h.sch (by omega)

set_option maxRecDepth 100000 in
set_option maxHeartbeats 4000000 in
theorem walk_FnCellKeys (a0 : Option Addr) (n0 c0 : Nat) (z0 : List Int) (a1 : Option Addr) (n1 c1 : Nat) (z1 : List Int) (w : World) (r0 : Bytes w a0 n0 z0) (m0 : n0 ≤ maxLen) (f0 : ∀ x ∈ z0, (Lit.int .u8 x).wf = true) (r1 : Bytes w a1 n1 z1) (m1 : n1 ≤ maxLen) (f1 : ∀ x ∈ z1, (Lit.int .u8 x).wf = true) :
    Calls Try.prog 4 #[.slice a0 n0 c0, .slice a1 n1 c1] w fun e w' => e = .returned (.bool true) ∧ Below w.heap.size w w' := by
  have hb0 := Lib.hid (byt_of r0 f0)
  have hb1 := Lib.hid (byt_of r1 f1)
  have B0 := Below.refl w.heap.size w
  unfold maxLen at m0 m1
  clear r0 f0 r1 f1
  go_enter Try.func4, Try.ntmps4
  go_wp2_with fail
  · go_ret
    exact ⟨rfl, B0⟩
  rename (wrap64 _ ≤ _) => hbig
  clear hbig
  have K1 := drawKeyedTable_any a0 n0 c0 w (hb0.out.below B0) (by omega)
  refine K1.mono ?_
  clear K1
  rintro e w1 ⟨T, nt, ct, sd, A1, q1, d1, vs, Bq, m, d, U, l, kc, us, rfl, hnt, ot, hq1, od, hm, or_, hl, ou, b1⟩
  have B1 := B0.trans (b1.mono B0.size)
  have S1 := b1.size
  clear b1 B0
  obtain ⟨S, hs, hsl⟩ := ot.rows
  have hx := od.readS hq1
  obtain ⟨rs, hy⟩ := or_.recs (by omega)
  have hu := ou.intR
  have HSL := Lib.hid (fun j (hj : j < nt) => (show (S j).length ≤ 1099511627776 by have := hsl j hj; omega))
  have hyl := Lib.hid hy.len
  have hxl := Lib.hid hx.len
  clear ot od or_ ou hsl
  obtain ⟨KR, hKR⟩ : ∃ KR, ktR nt S sd vs rs us = KR := ⟨_, rfl⟩
  obtain ⟨KB, hKB⟩ : ∃ KB, ktB nt S sd vs rs us = KB := ⟨_, rfl⟩
  have HKR := Lib.hid hKR
  have HKB := Lib.hid hKB
  clear hKR hKB
  have b2 := below_new w1 (.cells #[.slice T nt ct] 33)
  have xt := box_new w1 #[.slice T nt ct] 33
  obtain ⟨gt, hgt⟩ : ∃ g, w1.heap.size = g := ⟨_, rfl⟩
  go_wp2_with fail
  generalize w1.alloc (.cells #[.slice T nt ct] 33) = w2 at *
  have B2 := B1.trans (b2.mono B1.size)
  replace hs := hs.below b2
  replace hx := hx.below b2
  replace hy := hy.below b2
  replace hu := hu.below b2
  have S2 := b2.size
  clear b2 B1
  rw [hgt] at xt
  try rw [hgt]
  clear hgt
  have K3 := implKeyedTable_law sd T nt ct A1 Bq U q1 d1 m d l kc S vs rs us w2 hs (by omega) HSL.out hx hy hu
  rw [HKR.out, HKB.out] at K3
  refine K3.mono ?_
  clear K3
  rintro e w3 ⟨Ai, ci, rfl, oi, b3⟩
  have B3 := B2.trans (b3.mono B2.size)
  replace xt := box_below xt b3
  replace hs := hs.below b3
  replace hx := hx.below b3
  replace hy := hy.below b3
  replace hu := hu.below b3
  have S3 := b3.size
  clear b3 B2
  have ct0 := box_cell xt 0 _ rfl
  have lt := lt_of_block xt
  go_wp2_with fail
  clear ct0 lt
  have K4 := specKeyedTable_law sd T nt ct A1 Bq U q1 d1 m d l kc S vs rs us w3 hs (by omega) HSL.out hx hy hu
  rw [HKR.out, HKB.out] at K4
  refine K4.mono ?_
  clear K4
  rintro e w4 ⟨As, cs, rfl, os, b4⟩
  have B4 := B3.trans (b4.mono B3.size)
  replace xt := box_below xt b4
  replace hs := hs.below b4
  replace hx := hx.below b4
  replace hy := hy.below b4
  replace hu := hu.below b4
  replace oi := oi.below b4
  have S4 := b4.size
  clear b4 B3
  have ct0 := box_cell xt 0 _ rfl
  have lt := lt_of_block xt
  go_wp2_with fail
  clear ct0 lt
  have K5 := drawRecordKey_any a1 n1 c1 w4 (hb1.out.below B4) (by omega)
  refine K5.mono ?_
  clear K5
  rintro e w5 ⟨sd2, A2, q2, d2, vs2, x, y, V, mv, cv, xs, rfl, hq2, od2, hmv, ov, b5⟩
  have B5 := B4.trans (b5.mono B4.size)
  replace xt := box_below xt b5
  replace hs := hs.below b5
  replace hx := hx.below b5
  replace hy := hy.below b5
  replace hu := hu.below b5
  replace oi := oi.below b5
  replace os := os.below b5
  have S5 := b5.size
  clear b5 B4
  have hx2 := od2.readS hq2
  have hv := ov.intR
  clear od2 ov
  obtain ⟨RV, hRV⟩ : ∃ RV, rkV sd2 vs2 x y xs = RV := ⟨_, rfl⟩
  obtain ⟨RB, hRB⟩ : ∃ RB, rkB sd2 vs2 x y xs = RB := ⟨_, rfl⟩
  have hRV0 := rkV_bd sd2 x y vs2 xs
  rw [hRV] at hRV0
  have HRV := Lib.hid hRV
  have HRB := Lib.hid hRB
  clear hRV hRB
  have b6 := below_new w5 (.cells #[.int .i64 x, .int .i64 y, .slice V mv cv] 53)
  have xr := box_new w5 #[.int .i64 x, .int .i64 y, .slice V mv cv] 53
  obtain ⟨gr, hgr⟩ : ∃ g, w5.heap.size = g := ⟨_, rfl⟩
  have ct0 := box_cell xt 0 _ rfl
  have lt := lt_of_block xt
  go_wp2_with fail
  clear ct0 lt
  generalize w5.alloc (.cells #[.int .i64 x, .int .i64 y, .slice V mv cv] 53) = w6 at *
  have B6 := B5.trans (b6.mono B5.size)
  replace xt := box_below xt b6
  replace hs := hs.below b6
  replace hx := hx.below b6
  replace hy := hy.below b6
  replace hu := hu.below b6
  replace oi := oi.below b6
  replace os := os.below b6
  replace hx2 := hx2.below b6
  replace hv := hv.below b6
  have S6 := b6.size
  clear b6 B5
  rw [hgr] at xr
  try rw [hgr]
  clear hgr
  have K7 := implRecordKey_law sd2 A2 V q2 d2 mv cv x y vs2 xs w6 hx2 hv
  rw [HRV.out, HRB.out] at K7
  refine K7.mono ?_
  clear K7
  rintro e w7 ⟨rfl, b7⟩
  have B7 := B6.trans (b7.mono B6.size)
  replace xt := box_below xt b7
  replace xr := box_below xr b7
  replace hs := hs.below b7
  replace hx := hx.below b7
  replace hy := hy.below b7
  replace hu := hu.below b7
  replace oi := oi.below b7
  replace os := os.below b7
  replace hx2 := hx2.below b7
  replace hv := hv.below b7
  have S7 := b7.size
  clear b7 B6
  have ct0 := box_cell xt 0 _ rfl
  have lt := lt_of_block xt
  have cr0 := box_cell xr 0 _ rfl
  have cr1 := box_cell xr 1 _ rfl
  have cr2 := box_cell xr 2 _ rfl
  have lr := lt_of_block xr
  go_wp2_with fail
  clear ct0 lt cr0 cr1 cr2 lr
  have K8 := specRecordKey_law sd2 A2 V q2 d2 mv cv x y vs2 xs w7 hx2 hv
  rw [HRV.out, HRB.out] at K8
  refine K8.mono ?_
  clear K8
  rintro e w8 ⟨rfl, b8⟩
  have B8 := B7.trans (b8.mono B7.size)
  replace xt := box_below xt b8
  replace xr := box_below xr b8
  replace hs := hs.below b8
  replace hx := hx.below b8
  replace hy := hy.below b8
  replace hu := hu.below b8
  replace oi := oi.below b8
  replace os := os.below b8
  replace hx2 := hx2.below b8
  replace hv := hv.below b8
  have S8 := b8.size
  clear b8 B7
  clear hx2 hv
  have ct0 := box_cell xt 0 _ rfl
  have lt := lt_of_block xt
  have cr0 := box_cell xr 0 _ rfl
  have cr1 := box_cell xr 1 _ rfl
  have cr2 := box_cell xr 2 _ rfl
  have lr := lt_of_block xr
  go_wp2_with fail
  clear ct0 lt cr0 cr1 cr2 lr
  have K9 := drawPossibleCounts_any a1 n1 c1 w8 (hb1.out.below B8) (by omega)
  refine K9.mono ?_
  clear K9
  rintro e w9 ⟨T2, nu, cu, sn, rfl, hnu, ou, hsn, hsn2, b9⟩
  have B9 := B8.trans (b9.mono B8.size)
  replace xt := box_below xt b9
  replace xr := box_below xr b9
  replace hs := hs.below b9
  replace hx := hx.below b9
  replace hy := hy.below b9
  replace hu := hu.below b9
  replace oi := oi.below b9
  replace os := os.below b9
  have S9 := b9.size
  clear b9 B8
  obtain ⟨S2, hs2, hsl2⟩ := ou.rows
  have HSL2 := Lib.hid (fun j (hj : j < nu) => (show (S2 j).length ≤ 1099511627776 by have := hsl2 j hj; omega))
  clear ou hsl2
  obtain ⟨PR, hPR⟩ : ∃ PR, pcL nu S2 sn = PR := ⟨_, rfl⟩
  obtain ⟨PB, hPB⟩ : ∃ PB, pcB0 nu S2 sn = PB := ⟨_, rfl⟩
  have HPR := Lib.hid hPR
  have HPB := Lib.hid hPB
  clear hPR hPB
  have b10 := below_new w9 (.cells #[.slice T2 nu cu] 33)
  have xu := box_new w9 #[.slice T2 nu cu] 33
  obtain ⟨gu, hgu⟩ : ∃ g, w9.heap.size = g := ⟨_, rfl⟩
  have ct0 := box_cell xt 0 _ rfl
  have lt := lt_of_block xt
  have cr0 := box_cell xr 0 _ rfl
  have cr1 := box_cell xr 1 _ rfl
  have cr2 := box_cell xr 2 _ rfl
  have lr := lt_of_block xr
  go_wp2_with fail
  clear ct0 lt cr0 cr1 cr2 lr
  generalize w9.alloc (.cells #[.slice T2 nu cu] 33) = w10 at *
  have B10 := B9.trans (b10.mono B9.size)
  replace xt := box_below xt b10
  replace xr := box_below xr b10
  replace hs := hs.below b10
  replace hx := hx.below b10
  replace hy := hy.below b10
  replace hu := hu.below b10
  replace oi := oi.below b10
  replace os := os.below b10
  replace hs2 := hs2.below b10
  have S10 := b10.size
  clear b10 B9
  rw [hgu] at xu
  try rw [hgu]
  clear hgu
  have K11 := implPossibleCounts_law T2 nu cu sn S2 w10 hs2 (by omega) HSL2.out
  rw [HPR.out, HPB.out] at K11
  refine K11.mono ?_
  clear K11
  rintro e w11 ⟨Ap, cp, rfl, op, b11⟩
  have B11 := B10.trans (b11.mono B10.size)
  replace xt := box_below xt b11
  replace xr := box_below xr b11
  replace xu := box_below xu b11
  replace hs := hs.below b11
  replace hx := hx.below b11
  replace hy := hy.below b11
  replace hu := hu.below b11
  replace oi := oi.below b11
  replace os := os.below b11
  replace hs2 := hs2.below b11
  have S11 := b11.size
  clear b11 B10
  have ct0 := box_cell xt 0 _ rfl
  have lt := lt_of_block xt
  have cr0 := box_cell xr 0 _ rfl
  have cr1 := box_cell xr 1 _ rfl
  have cr2 := box_cell xr 2 _ rfl
  have lr := lt_of_block xr
  have cu0 := box_cell xu 0 _ rfl
  have lu := lt_of_block xu
  go_wp2_with fail
  clear ct0 lt cr0 cr1 cr2 lr cu0 lu
  have K12 := specPossibleCounts_law T2 nu cu sn S2 w11 hs2 (by omega) HSL2.out
  rw [HPR.out, HPB.out] at K12
  refine K12.mono ?_
  clear K12
  rintro e w12 ⟨Aq, cq, rfl, oq, b12⟩
  have B12 := B11.trans (b12.mono B11.size)
  replace xt := box_below xt b12
  replace xr := box_below xr b12
  replace xu := box_below xu b12
  replace hs := hs.below b12
  replace hx := hx.below b12
  replace hy := hy.below b12
  replace hu := hu.below b12
  replace oi := oi.below b12
  replace os := os.below b12
  replace hs2 := hs2.below b12
  replace op := op.below b12
  have S12 := b12.size
  clear b12 B11
  clear hs2
  have k1 : (KB != KB) = false := by simp
  have k2 : (RB != RB) = false := by simp
  have k3 : (PB != PB) = false := by simp
  have k4 : (RV != RV) = false := by simp
  clear xr xu
  have ct0 := box_cell xt 0 _ rfl
  have lt := lt_of_block xt
  go_wp2_with fail
  clear ct0 lt
  have K13 := qInts_any Ai As _ ci cs KR w12 oi.ints os.ints oi.small
  refine K13.mono ?_
  clear K13
  rintro e w13 ⟨rfl, b13⟩
  have B13 := B12.trans (b13.mono B12.size)
  replace xt := box_below xt b13
  replace hs := hs.below b13
  replace hx := hx.below b13
  replace hy := hy.below b13
  replace hu := hu.below b13
  replace oi := oi.below b13
  replace os := os.below b13
  replace op := op.below b13
  replace oq := oq.below b13
  have S13 := b13.size
  clear b13 B12
  have ct0 := box_cell xt 0 _ rfl
  have lt := lt_of_block xt
  go_wp2_with fail
  clear ct0 lt
  have K14 := qInts_any Ap Aq _ cp cq PR w13 op.ints oq.ints op.small
  refine K14.mono ?_
  clear K14
  rintro e w14 ⟨rfl, b14⟩
  have B14 := B13.trans (b14.mono B13.size)
  replace xt := box_below xt b14
  replace hs := hs.below b14
  replace hx := hx.below b14
  replace hy := hy.below b14
  replace hu := hu.below b14
  replace oi := oi.below b14
  replace os := os.below b14
  replace op := op.below b14
  replace oq := oq.below b14
  have S14 := b14.size
  clear b14 B13
  clear os op oq k1 k3 k4
  have k5 : decide (RV < 0) = false := decide_eq_false (by omega)
  have k6 : decide ((65536 : Int) ≤ RV) = false := decide_eq_false (by omega)
  have k7 : ¬ RV < 0 := by omega
  have k8 : ¬ (65536 : Int) ≤ RV := by omega
  cases RB
  all_goals cases hKB2 : KB
  · clear hs hx hy hu oi
    go_wp2
    go_ret
    exact ⟨rfl, B14⟩
  · obtain ⟨t1, t2, t3⟩ := ktB_of (HKB.out.trans hKB2)
    have H1 := Lib.hid t1
    have H2 := Lib.hid t2
    have hk := keyed_all hxl.out (by simp only [kcB, Bool.and_eq_true] at t2; exact t2.2)
    have hm40 : m ≤ 40 := by rw [← hyl.out]; exact hk.forty
    obtain ⟨N, hN⟩ : ∃ N, cellsN vs us = N := ⟨_, rfl⟩
    obtain ⟨CC, hCC⟩ : ∃ CC, cellsC vs us rs N m = CC := ⟨_, rfl⟩
    obtain ⟨KK, hKK⟩ : ∃ KK, cellsK sd vs us rs N m = KK := ⟨_, rfl⟩
    rw [hN] at t3
    have E1 : kcC sd vs rs us = CC := by rw [kcC, if_pos t2, hyl.out, hN, hCC]
    have E2 : kcK sd vs rs us = KK := by rw [kcK, if_pos t2, hyl.out, hN, hKK]
    have E3 : tabl N (nzP nt S CC KK) = KR := by rw [← HKR.out]; unfold ktR; rw [if_pos (HKB.out.trans hKB2), hN, hyl.out, hCC, hKK]
    have L1 : CC.length = N := by rw [← hCC]; exact cellsC_len _ _ _ _ _
    have L2 : KK.length = N := by rw [← hKK]; exact cellsK_len _ _ _ _ _ _
    have L3 : KR.length = N := by rw [← E3]; exact tabl_len _ _
    have R1 : ∀ t : Nat, (0 : Int) ≤ CC[t]?.getD 0 ∧ CC[t]?.getD 0 ≤ 40 := fun t => by have h9 := cellsC_bd vs us rs N m t; rw [hCC] at h9; omega
    have R2 : ∀ t : Nat, (0 : Int) ≤ KK[t]?.getD 0 ∧ KK[t]?.getD 0 < 65536 := fun t => by have h9 := cellsK_bd sd vs us rs N m t; rw [hKK] at h9; exact h9
    have R3 : allR KK 0 65535 = true := by rw [← hKK]; exact cellsK_all _ _ _ _ _ _
    have R4 : sumTo CC N = (m : Int) := by rw [← hCC]; exact cellsC_sum m (fun i hi => by rw [← hN]; exact (cellAt_lt (hk.at_ (by rw [hyl.out]; exact hi))).2)
    have R5 : ∀ j : Nat, j < N → ∃ c y : Nat, CC[j]?.getD 0 = (c : Int) ∧ KR[j]?.getD 0 = (c : Int) + nzAt nt S c y ∧ c ≤ 1000 ∧ y < 65536 := fun j hj => by
      have h1 := R1 j
      have h2 := R2 j
      refine ⟨(CC[j]?.getD 0).toNat, (KK[j]?.getD 0).toNat, by omega, ?_, by omega, by omega⟩
      rw [← E3, tabl_at hj]
      unfold nzP
      omega
    have HL1 := Lib.hid L1
    have HL2 := Lib.hid L2
    have HL3 := Lib.hid L3
    have HE1 := Lib.hid E1
    have HE2 := Lib.hid E2
    have HE3 := Lib.hid E3
    have HR1 := Lib.hid R1
    have HR3 := Lib.hid R3
    have HR4 := Lib.hid R4
    have HR5 := Lib.hid R5
    clear t1 t2 hk hN hCC hKK E1 E2 E3 L1 L2 L3 R1 R2 R3 R4 R5 hKB2 k2
    rw [HL3.out] at oi
    have ct0 := box_cell xt 0 _ rfl
    have lt := lt_of_block xt
    go_wp2_with fail
    clear ct0 lt
    rw [HL3.out]
    have K15 := implKeyedCells_law sd A1 Bq U q1 d1 m d l kc vs rs us w14 hx hy hu
    rw [HE1.out, HE2.out, H2.out] at K15
    refine K15.mono ?_
    clear K15
    rintro e w15 ⟨A3, c3, A4, c4, rfl, ⟨p1, p2, p3, p4, -, -, -, -, -, o3, o4⟩, b15⟩
    have B15 := B14.trans (b15.mono B14.size)
    replace xt := box_below xt b15
    replace hs := hs.below b15
    replace hx := hx.below b15
    replace hy := hy.below b15
    replace hu := hu.below b15
    replace oi := oi.below b15
    have S15 := b15.size
    clear b15 B14
    rw [HL1.out] at o3
    rw [HL2.out] at o4
    rw [HL1.out, HL2.out]
    clear hx hy hu
    have ct0 := box_cell xt 0 _ rfl
    have lt := lt_of_block xt
    go_wp2_with fail
    clear ct0 lt
    have K16 := perturb_any T A3 A4 nt ct N c3 c4 S CC KK w15 hs H1.out o3.ints o4.ints t3 (fun j _ => by have := HR1.out j; omega) HR3.out
    rw [HE3.out] at K16
    refine K16.mono ?_
    clear K16
    rintro e w16 ⟨A5, c5, rfl, o5, b16⟩
    have B16 := B15.trans (b16.mono B15.size)
    replace xt := box_below xt b16
    replace hs := hs.below b16
    replace oi := oi.below b16
    replace o3 := o3.below b16
    replace o4 := o4.below b16
    have S16 := b16.size
    clear b16 B15
    rw [HL3.out] at o5
    rw [HL3.out]
    clear o4
    have k9 : ((N : Int) != (N : Int)) = false := by simp
    have k10 : ((m : Int) != (m : Int)) = false := by simp
    have ct0 := box_cell xt 0 _ rfl
    have lt := lt_of_block xt
    go_wp2_with fail
    clear ct0 lt
    have K17 := qInts_any A5 Ai _ c5 ci KR w16 o5.ints oi.ints o5.small
    refine K17.mono ?_
    clear K17
    rintro e w17 ⟨rfl, b17⟩
    have B17 := B16.trans (b17.mono B16.size)
    replace xt := box_below xt b17
    replace hs := hs.below b17
    replace oi := oi.below b17
    replace o3 := o3.below b17
    replace o5 := o5.below b17
    have S17 := b17.size
    clear b17 B16
    clear o5
    have ct0 := box_cell xt 0 _ rfl
    have lt := lt_of_block xt
    go_wp2_with fail
    clear ct0 lt
    refine (qSum_any A3 N c3 CC _ o3.ints (by omega) (fun j _ => by have := HR1.out j; omega)).mono ?_
    rintro e w9 ⟨rfl, rfl⟩
    rw [HR4.out]
    have HS9 := Lib.hid hs
    have HI := Lib.hid oi.ints
    have HC3 := Lib.hid o3.ints
    have HX := Lib.hid xt
    have HB := Lib.hid B17
    clear hs oi o3 xt B17
    go_wp2_with fail
    go_loopw [193] (fun i wr => ∃ j : Nat, j ≤ N ∧ i = .int .i64 j ∧ Below w17.heap.size w17 wr) (fun i _ => N - (intOf i).toNat)
    case atStart => exact ⟨0, Nat.zero_le _, rfl, Below.refl _ _⟩
    case round =>
      clear k9 k10
      obtain ⟨j, hj, rfl, hbw⟩ := hrel
      obtain ⟨wo, rfl⟩ : ∃ wo : World, wo = wr := ⟨_, rfl⟩
      have HBW := Lib.hid hbw
      by_cases hlt : j < N
      · obtain ⟨ai, rfl, hci⟩ := (HI.out.below hbw).at_ hlt
        obtain ⟨c, y, e1, e2, hc1, hy1⟩ := HR5.out j hlt
        obtain ⟨q1', q2'⟩ := pc_mem H1.out hc1 hy1
        rw [← e2] at q1' q2'
        obtain ⟨sv, hsv⟩ : ∃ sv, KR[j]?.getD 0 = sv := ⟨_, rfl⟩
        rw [hsv] at hci q1' q2'
        have HE9 := Lib.hid e1
        have HP1 := Lib.hid q1'
        have HP2 := Lib.hid q2'
        have x9 := box_below HX.out hbw
        have c9 := box_cell x9 0 _ rfl
        have l9 := lt_of_block x9
        have HSW := Lib.hid (HS9.out.below hbw)
        clear e1 e2 q1' q2' hsv hc1 hy1 hbw x9
        go_wp2_with fail
        have K9 := implPossibleCounts_law T nt ct sv S wo HSW.out (by omega) HSL.out
        rw [HP1.out] at K9
        obtain ⟨PL, hPL⟩ : ∃ PL, pcL nt S sv = PL := ⟨_, rfl⟩
        rw [hPL] at K9 HP2
        clear hPL
        refine K9.mono ?_
        clear K9
        rintro e w5 ⟨A7, c7, rfl, o7, b7⟩
        have B7 := Lib.hid (HBW.out.trans (b7.mono HBW.out.size))
        have HO7 := Lib.hid o7.ints
        have hsm := o7.small
        obtain ⟨ac, e9, hcc⟩ := ((HC3.out.below HBW.out).below b7).at_ hlt
        have HA3 := Lib.hid e9
        rw [HE9.out] at hcc
        have HMT := Lib.hid (metB_yes HP2.out)
        obtain ⟨pl, hpl⟩ : ∃ pl, PL.length = pl := ⟨_, rfl⟩
        rw [hpl] at HO7 hsm HMT ⊢
        clear hpl b7 o7 c9 e9
        go_wp2_with fail
        go_loopw [36, 206] (fun a i wq => ∃ (t : Nat) (b : Bool), t ≤ pl ∧ i = .int .i64 t ∧ a = .bool b ∧ Hid (b = metB PL c t) ∧ wq = w5) (fun _ i _ => pl - (intOf i).toNat)
        case atStart => exact ⟨0, false, Nat.zero_le _, rfl, rfl, Lib.hid rfl, rfl⟩
        case round =>
          obtain ⟨t, b, ht, rfl, rfl, hb, rfl⟩ := hrel
          by_cases hlt2 : t < pl
          · obtain ⟨ap, rfl, hcp⟩ := HO7.out.at_ hlt2
            have HS1 := Lib.hid (metB_succ PL c t)
            rw [← hb.out] at HS1
            obtain ⟨v, hv⟩ : ∃ v, PL[t]?.getD 0 = v := ⟨_, rfl⟩
            rw [hv] at hcp HS1
            clear hv hb
            have HA4 := HA3.out
            subst HA4
            cases b
            · go_wp2
              go_roundw
              case rel => exact ⟨t + 1, _, by omega, by go_num, rfl, Lib.hid (by rw [HS1.out]; simp), trivial⟩
              case measure => simp [intOf]; omega
            · go_wp2
              go_roundw
              case rel => exact ⟨t + 1, _, by omega, by go_num, rfl, Lib.hid (by rw [HS1.out]; simp), trivial⟩
              case measure => simp [intOf]; omega
          · obtain rfl : t = pl := by omega
            obtain rfl : b = true := hb.out.trans HMT.out
            clear hb HMT
            go_wp2
            go_roundw
            case rel => exact ⟨j + 1, by omega, by go_num, B7.out⟩
            case measure => simp [intOf]; omega
      · obtain rfl : N = j := by omega
        clear hbw
        go_wp2
        go_ret
        exact ⟨rfl, HB.out.trans (HBW.out.mono HB.out.size)⟩
  · clear hs hx hy hu oi
    go_wp2
    go_ret
    exact ⟨rfl, B14⟩
  · obtain ⟨t1, t2, t3⟩ := ktB_of (HKB.out.trans hKB2)
    have H1 := Lib.hid t1
    have H2 := Lib.hid t2
    have hk := keyed_all hxl.out (by simp only [kcB, Bool.and_eq_true] at t2; exact t2.2)
    have hm40 : m ≤ 40 := by rw [← hyl.out]; exact hk.forty
    obtain ⟨N, hN⟩ : ∃ N, cellsN vs us = N := ⟨_, rfl⟩
    obtain ⟨CC, hCC⟩ : ∃ CC, cellsC vs us rs N m = CC := ⟨_, rfl⟩
    obtain ⟨KK, hKK⟩ : ∃ KK, cellsK sd vs us rs N m = KK := ⟨_, rfl⟩
    rw [hN] at t3
    have E1 : kcC sd vs rs us = CC := by rw [kcC, if_pos t2, hyl.out, hN, hCC]
    have E2 : kcK sd vs rs us = KK := by rw [kcK, if_pos t2, hyl.out, hN, hKK]
    have E3 : tabl N (nzP nt S CC KK) = KR := by rw [← HKR.out]; unfold ktR; rw [if_pos (HKB.out.trans hKB2), hN, hyl.out, hCC, hKK]
    have L1 : CC.length = N := by rw [← hCC]; exact cellsC_len _ _ _ _ _
    have L2 : KK.length = N := by rw [← hKK]; exact cellsK_len _ _ _ _ _ _
    have L3 : KR.length = N := by rw [← E3]; exact tabl_len _ _
    have R1 : ∀ t : Nat, (0 : Int) ≤ CC[t]?.getD 0 ∧ CC[t]?.getD 0 ≤ 40 := fun t => by have h9 := cellsC_bd vs us rs N m t; rw [hCC] at h9; omega
    have R2 : ∀ t : Nat, (0 : Int) ≤ KK[t]?.getD 0 ∧ KK[t]?.getD 0 < 65536 := fun t => by have h9 := cellsK_bd sd vs us rs N m t; rw [hKK] at h9; exact h9
    have R3 : allR KK 0 65535 = true := by rw [← hKK]; exact cellsK_all _ _ _ _ _ _
    have R4 : sumTo CC N = (m : Int) := by rw [← hCC]; exact cellsC_sum m (fun i hi => by rw [← hN]; exact (cellAt_lt (hk.at_ (by rw [hyl.out]; exact hi))).2)
    have R5 : ∀ j : Nat, j < N → ∃ c y : Nat, CC[j]?.getD 0 = (c : Int) ∧ KR[j]?.getD 0 = (c : Int) + nzAt nt S c y ∧ c ≤ 1000 ∧ y < 65536 := fun j hj => by
      have h1 := R1 j
      have h2 := R2 j
      refine ⟨(CC[j]?.getD 0).toNat, (KK[j]?.getD 0).toNat, by omega, ?_, by omega, by omega⟩
      rw [← E3, tabl_at hj]
      unfold nzP
      omega
    have HL1 := Lib.hid L1
    have HL2 := Lib.hid L2
    have HL3 := Lib.hid L3
    have HE1 := Lib.hid E1
    have HE2 := Lib.hid E2
    have HE3 := Lib.hid E3
    have HR1 := Lib.hid R1
    have HR3 := Lib.hid R3
    have HR4 := Lib.hid R4
    have HR5 := Lib.hid R5
    clear t1 t2 hk hN hCC hKK E1 E2 E3 L1 L2 L3 R1 R2 R3 R4 R5 hKB2 k2
    rw [HL3.out] at oi
    have ct0 := box_cell xt 0 _ rfl
    have lt := lt_of_block xt
    go_wp2_with fail
    clear ct0 lt
    rw [HL3.out]
    have K15 := implKeyedCells_law sd A1 Bq U q1 d1 m d l kc vs rs us w14 hx hy hu
    rw [HE1.out, HE2.out, H2.out] at K15
    refine K15.mono ?_
    clear K15
    rintro e w15 ⟨A3, c3, A4, c4, rfl, ⟨p1, p2, p3, p4, -, -, -, -, -, o3, o4⟩, b15⟩
    have B15 := B14.trans (b15.mono B14.size)
    replace xt := box_below xt b15
    replace hs := hs.below b15
    replace hx := hx.below b15
    replace hy := hy.below b15
    replace hu := hu.below b15
    replace oi := oi.below b15
    have S15 := b15.size
    clear b15 B14
    rw [HL1.out] at o3
    rw [HL2.out] at o4
    rw [HL1.out, HL2.out]
    clear hx hy hu
    have ct0 := box_cell xt 0 _ rfl
    have lt := lt_of_block xt
    go_wp2_with fail
    clear ct0 lt
    have K16 := perturb_any T A3 A4 nt ct N c3 c4 S CC KK w15 hs H1.out o3.ints o4.ints t3 (fun j _ => by have := HR1.out j; omega) HR3.out
    rw [HE3.out] at K16
    refine K16.mono ?_
    clear K16
    rintro e w16 ⟨A5, c5, rfl, o5, b16⟩
    have B16 := B15.trans (b16.mono B15.size)
    replace xt := box_below xt b16
    replace hs := hs.below b16
    replace oi := oi.below b16
    replace o3 := o3.below b16
    replace o4 := o4.below b16
    have S16 := b16.size
    clear b16 B15
    rw [HL3.out] at o5
    rw [HL3.out]
    clear o4
    have k9 : ((N : Int) != (N : Int)) = false := by simp
    have k10 : ((m : Int) != (m : Int)) = false := by simp
    have ct0 := box_cell xt 0 _ rfl
    have lt := lt_of_block xt
    go_wp2_with fail
    clear ct0 lt
    have K17 := qInts_any A5 Ai _ c5 ci KR w16 o5.ints oi.ints o5.small
    refine K17.mono ?_
    clear K17
    rintro e w17 ⟨rfl, b17⟩
    have B17 := B16.trans (b17.mono B16.size)
    replace xt := box_below xt b17
    replace hs := hs.below b17
    replace oi := oi.below b17
    replace o3 := o3.below b17
    replace o5 := o5.below b17
    have S17 := b17.size
    clear b17 B16
    clear o5
    have ct0 := box_cell xt 0 _ rfl
    have lt := lt_of_block xt
    go_wp2_with fail
    clear ct0 lt
    refine (qSum_any A3 N c3 CC _ o3.ints (by omega) (fun j _ => by have := HR1.out j; omega)).mono ?_
    rintro e w9 ⟨rfl, rfl⟩
    rw [HR4.out]
    have HS9 := Lib.hid hs
    have HI := Lib.hid oi.ints
    have HC3 := Lib.hid o3.ints
    have HX := Lib.hid xt
    have HB := Lib.hid B17
    clear hs oi o3 xt B17
    go_wp2_with fail
    go_loopw [193] (fun i wr => ∃ j : Nat, j ≤ N ∧ i = .int .i64 j ∧ Below w17.heap.size w17 wr) (fun i _ => N - (intOf i).toNat)
    case atStart => exact ⟨0, Nat.zero_le _, rfl, Below.refl _ _⟩
    case round =>
      clear k9 k10
      obtain ⟨j, hj, rfl, hbw⟩ := hrel
      obtain ⟨wo, rfl⟩ : ∃ wo : World, wo = wr := ⟨_, rfl⟩
      have HBW := Lib.hid hbw
      by_cases hlt : j < N
      · obtain ⟨ai, rfl, hci⟩ := (HI.out.below hbw).at_ hlt
        obtain ⟨c, y, e1, e2, hc1, hy1⟩ := HR5.out j hlt
        obtain ⟨q1', q2'⟩ := pc_mem H1.out hc1 hy1
        rw [← e2] at q1' q2'
        obtain ⟨sv, hsv⟩ : ∃ sv, KR[j]?.getD 0 = sv := ⟨_, rfl⟩
        rw [hsv] at hci q1' q2'
        have HE9 := Lib.hid e1
        have HP1 := Lib.hid q1'
        have HP2 := Lib.hid q2'
        have x9 := box_below HX.out hbw
        have c9 := box_cell x9 0 _ rfl
        have l9 := lt_of_block x9
        have HSW := Lib.hid (HS9.out.below hbw)
        clear e1 e2 q1' q2' hsv hc1 hy1 hbw x9
        go_wp2_with fail
        have K9 := implPossibleCounts_law T nt ct sv S wo HSW.out (by omega) HSL.out
        rw [HP1.out] at K9
        obtain ⟨PL, hPL⟩ : ∃ PL, pcL nt S sv = PL := ⟨_, rfl⟩
        rw [hPL] at K9 HP2
        clear hPL
        refine K9.mono ?_
        clear K9
        rintro e w5 ⟨A7, c7, rfl, o7, b7⟩
        have B7 := Lib.hid (HBW.out.trans (b7.mono HBW.out.size))
        have HO7 := Lib.hid o7.ints
        have hsm := o7.small
        obtain ⟨ac, e9, hcc⟩ := ((HC3.out.below HBW.out).below b7).at_ hlt
        have HA3 := Lib.hid e9
        rw [HE9.out] at hcc
        have HMT := Lib.hid (metB_yes HP2.out)
        obtain ⟨pl, hpl⟩ : ∃ pl, PL.length = pl := ⟨_, rfl⟩
        rw [hpl] at HO7 hsm HMT ⊢
        clear hpl b7 o7 c9 e9
        go_wp2_with fail
        go_loopw [36, 206] (fun a i wq => ∃ (t : Nat) (b : Bool), t ≤ pl ∧ i = .int .i64 t ∧ a = .bool b ∧ Hid (b = metB PL c t) ∧ wq = w5) (fun _ i _ => pl - (intOf i).toNat)
        case atStart => exact ⟨0, false, Nat.zero_le _, rfl, rfl, Lib.hid rfl, rfl⟩
        case round =>
          obtain ⟨t, b, ht, rfl, rfl, hb, rfl⟩ := hrel
          by_cases hlt2 : t < pl
          · obtain ⟨ap, rfl, hcp⟩ := HO7.out.at_ hlt2
            have HS1 := Lib.hid (metB_succ PL c t)
            rw [← hb.out] at HS1
            obtain ⟨v, hv⟩ : ∃ v, PL[t]?.getD 0 = v := ⟨_, rfl⟩
            rw [hv] at hcp HS1
            clear hv hb
            have HA4 := HA3.out
            subst HA4
            cases b
            · go_wp2
              go_roundw
              case rel => exact ⟨t + 1, _, by omega, by go_num, rfl, Lib.hid (by rw [HS1.out]; simp), trivial⟩
              case measure => simp [intOf]; omega
            · go_wp2
              go_roundw
              case rel => exact ⟨t + 1, _, by omega, by go_num, rfl, Lib.hid (by rw [HS1.out]; simp), trivial⟩
              case measure => simp [intOf]; omega
          · obtain rfl : t = pl := by omega
            obtain rfl : b = true := hb.out.trans HMT.out
            clear hb HMT
            go_wp2
            go_roundw
            case rel => exact ⟨j + 1, by omega, by go_num, B7.out⟩
            case measure => simp [intOf]; omega
      · obtain rfl : N = j := by omega
        clear hbw
        go_wp2
        go_ret
        exact ⟨rfl, HB.out.trans (HBW.out.mono HB.out.size)⟩
end Go.Proofs.Ytgeilnkglbcmeaa
