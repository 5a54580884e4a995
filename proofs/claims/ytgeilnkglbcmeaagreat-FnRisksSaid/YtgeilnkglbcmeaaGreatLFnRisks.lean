/- The walk of the law FnRisks, printed by grsk.py. -/
import Derived.Test.YtgeilnkglbcmeaaGreatRskQ
import Derived.Test.YtgeilnkglbcmeaaGreatRiskI
import Derived.Test.YtgeilnkglbcmeaaGreatRiskJ
import Derived.Test.YtgeilnkglbcmeaaGreatRiskS
import Derived.Test.YtgeilnkglbcmeaaGreatRiskT
import Derived.Test.YtgeilnkglbcmeaaGreatNear
import Derived.Test.YtgeilnkglbcmeaaGreatDiv
import Derived.Test.YtgeilnkglbcmeaaGreatDrZ
import Derived.Test.YtgeilnkglbcmeaaGreatZs
namespace Go.Proofs.YtgeilnkglbcmeaaGreat
open Go.RowKit

theorem DVr.readS {w : World} {lo n c : Nat} {A : Option Addr} {vs : List (ByteArray × Int)} (h : DVr w lo A n c vs) (hn : n ≤ 8) : SchR w A n c vs := h.sch (by omega)
theorem risk_bd (vs : List (ByteArray × Int)) (rs qs : List RecD) (us : List Int) : 0 ≤ fN (riskO vs rs qs us) ∧ fN (riskO vs rs qs us) ≤ fD (riskO vs rs qs us) := by
  cases h : riskO vs rs qs us with
  | none => exact ⟨Int.le_refl _, Int.le_refl _⟩
  | some r => exact risk_unit h

set_option maxRecDepth 100000 in
set_option maxHeartbeats 4000000 in
theorem walk_FnRisks (a0 : Option Addr) (n0 c0 : Nat) (z0 : List Int) (a1 : Option Addr) (n1 c1 : Nat) (z1 : List Int) (w : World) (r0 : Bytes w a0 n0 z0) (m0 : n0 ≤ maxLen) (f0 : ∀ x ∈ z0, (Lit.int .u8 x).wf = true) (r1 : Bytes w a1 n1 z1) (m1 : n1 ≤ maxLen) (f1 : ∀ x ∈ z1, (Lit.int .u8 x).wf = true) :
    Calls Tryz.prog 3 #[.slice a0 n0 c0, .slice a1 n1 c1] w fun e w' => e = .returned (.bool true) ∧ Below w.heap.size w w' := by
  have hb0 := Lib.hid (byt_of r0 f0)
  have hb1 := Lib.hid (byt_of r1 f1)
  have B0 := Below.refl w.heap.size w
  have mL := m0
  unfold maxLen at m0 m1
  clear r0 f0 r1 f1
  go_enter Tryz.func3, Tryz.ntmps3
  go_wp2_with fail
  refine (big_any a0 a1 n0 c0 n1 c1 w mL).mono ?_
  clear mL
  rintro e w' ⟨rfl, rfl⟩
  cases hbig : bigB n0 n1
  rotate_left
  · clear hbig
    go_wp2
    go_ret
    exact ⟨rfl, B0⟩
  clear hbig
  go_wp2_with fail
  have K1 := drawLinkRisk_any a0 n0 c0 w (hb0.out.below B0) (by omega)
  refine K1.mono ?_
  clear K1
  rintro e w1 ⟨A1, q1, d1, vs, Bq, m, d, Cq, m2, d2, U, l, kc, us, rfl, hq1, od, hm, or_, hm2, oc, hl, ou, b1⟩
  have B1 := B0.trans (b1.mono B0.size)
  have S1 := b1.size
  clear b1 B0
  have hx := od.readS hq1
  obtain ⟨rs, hy⟩ := or_.recs (by omega)
  obtain ⟨qs, hz⟩ := oc.recs (by omega)
  have hu := ou.intR
  clear od or_ oc ou
  obtain ⟨hf0, hf1⟩ := risk_bd vs rs qs us
  obtain ⟨FP, hFP⟩ : ∃ x, fN (riskO vs rs qs us) = x := ⟨_, rfl⟩
  obtain ⟨FQ, hFQ⟩ : ∃ x, fD (riskO vs rs qs us) = x := ⟨_, rfl⟩
  obtain ⟨FB, hFB⟩ : ∃ x, fB (riskO vs rs qs us) = x := ⟨_, rfl⟩
  obtain ⟨TP, hTP⟩ : ∃ x, fN (hitsO vs rs qs us) = x := ⟨_, rfl⟩
  obtain ⟨TQ, hTQ⟩ : ∃ x, fD (hitsO vs rs qs us) = x := ⟨_, rfl⟩
  obtain ⟨TB, hTB⟩ : ∃ x, fB (hitsO vs rs qs us) = x := ⟨_, rfl⟩
  obtain ⟨NL, hNL⟩ : ∃ x, nlR vs rs qs us = x := ⟨_, rfl⟩
  obtain ⟨LB, hLB⟩ : ∃ x, linkedB vs rs qs us = x := ⟨_, rfl⟩
  rw [hFP] at hf0 hf1
  rw [hFQ] at hf1
  have HFP := Lib.hid hFP
  have HFQ := Lib.hid hFQ
  have HFB := Lib.hid hFB
  have HTP := Lib.hid hTP
  have HTQ := Lib.hid hTQ
  have HTB := Lib.hid hTB
  have HNL := Lib.hid hNL
  have HLB := Lib.hid hLB
  clear hFP hFQ hFB hTP hTQ hTB hNL hLB
  go_wp2_with fail
  have K2 := implLinkRisk_law A1 Bq Cq U q1 d1 m d m2 d2 l kc vs rs qs us w1 hx hy hz hu
  refine K2.mono ?_
  clear K2
  rintro e w2 ⟨rfl, b2⟩
  rw [HFP.out, HFQ.out, HFB.out]
  have B2 := B1.trans (b2.mono B1.size)
  replace hx := hx.below b2
  replace hy := hy.below b2
  replace hz := hz.below b2
  replace hu := hu.below b2
  have S2 := b2.size
  clear b2 B1
  have b3 := below_new w2 (.cells #[.int .i64 FP, .int .i64 FQ] 30)
  have xf := box_new w2 #[.int .i64 FP, .int .i64 FQ] 30
  obtain ⟨gf, hgf⟩ : ∃ g, w2.heap.size = g := ⟨_, rfl⟩
  go_wp2_with fail
  generalize w2.alloc (.cells #[.int .i64 FP, .int .i64 FQ] 30) = w3 at *
  have B3 := B2.trans (b3.mono B2.size)
  replace hx := hx.below b3
  replace hy := hy.below b3
  replace hz := hz.below b3
  replace hu := hu.below b3
  have S3 := b3.size
  clear b3 B2
  rw [hgf] at xf
  try rw [hgf]
  clear hgf
  have K4 := specLinkRisk_law A1 Bq Cq U q1 d1 m d m2 d2 l kc vs rs qs us w3 hx hy hz hu
  refine K4.mono ?_
  clear K4
  rintro e w4 ⟨rfl, b4⟩
  rw [HFP.out, HFQ.out, HFB.out]
  have B4 := B3.trans (b4.mono B3.size)
  replace xf := box_below xf b4
  replace hx := hx.below b4
  replace hy := hy.below b4
  replace hz := hz.below b4
  replace hu := hu.below b4
  have S4 := b4.size
  clear b4 B3
  have k1 : (FB != FB) = false := by simp
  have k2 : decide (FP < 0) = false := decide_eq_false (by omega)
  have k3 : decide (FQ < FP) = false := decide_eq_false (by omega)
  have k4 : ¬ FP < 0 := by omega
  have k5 : ¬ FQ < FP := by omega
  cases FB
  · have b5 := below_new w4 (.cells #[.int .i64 FP, .int .i64 FQ] 30)
    have xg := box_new w4 #[.int .i64 FP, .int .i64 FQ] 30
    obtain ⟨gg, hgg⟩ : ∃ g, w4.heap.size = g := ⟨_, rfl⟩
    have ef0 := box_cell (box_below xf b5) 0 _ rfl
    have ef1 := box_cell (box_below xf b5) 1 _ rfl
    have cf0 := box_cell xf 0 _ rfl
    have cf1 := box_cell xf 1 _ rfl
    have lf := lt_of_block xf
    go_wp2_with fail
    clear cf0 cf1 lf
    clear ef0 ef1
    generalize w4.alloc (.cells #[.int .i64 FP, .int .i64 FQ] 30) = w5 at *
    have B5 := B4.trans (b5.mono B4.size)
    replace xf := box_below xf b5
    replace hx := hx.below b5
    replace hy := hy.below b5
    replace hz := hz.below b5
    replace hu := hu.below b5
    have S5 := b5.size
    clear b5 B4
    rw [hgg] at xg
    try rw [hgg]
    clear hgg
    clear k1 k2 k3 k4 k5 hf0 hf1
    clear xf xg
    have K6 := implExpectedHits_law A1 Bq Cq U q1 d1 m d m2 d2 l kc vs rs qs us w5 hx hy hz hu
    refine K6.mono ?_
    clear K6
    rintro e w6 ⟨rfl, b6⟩
    rw [HTP.out, HTQ.out, HTB.out]
    have B6 := B5.trans (b6.mono B5.size)
    replace hx := hx.below b6
    replace hy := hy.below b6
    replace hz := hz.below b6
    replace hu := hu.below b6
    have S6 := b6.size
    clear b6 B5
    have b7 := below_new w6 (.cells #[.int .i64 TP, .int .i64 TQ] 30)
    have xs := box_new w6 #[.int .i64 TP, .int .i64 TQ] 30
    obtain ⟨gs, hgs⟩ : ∃ g, w6.heap.size = g := ⟨_, rfl⟩
    go_wp2_with fail
    generalize w6.alloc (.cells #[.int .i64 TP, .int .i64 TQ] 30) = w7 at *
    have B7 := B6.trans (b7.mono B6.size)
    replace hx := hx.below b7
    replace hy := hy.below b7
    replace hz := hz.below b7
    replace hu := hu.below b7
    have S7 := b7.size
    clear b7 B6
    rw [hgs] at xs
    try rw [hgs]
    clear hgs
    have K8 := specExpectedHits_law A1 Bq Cq U q1 d1 m d m2 d2 l kc vs rs qs us w7 hx hy hz hu
    refine K8.mono ?_
    clear K8
    rintro e w8 ⟨rfl, b8⟩
    rw [HTP.out, HTQ.out, HTB.out]
    have B8 := B7.trans (b8.mono B7.size)
    replace xs := box_below xs b8
    replace hx := hx.below b8
    replace hy := hy.below b8
    replace hz := hz.below b8
    replace hu := hu.below b8
    have S8 := b8.size
    clear b8 B7
    have b9 := below_new w8 (.cells #[.int .i64 TP, .int .i64 TQ] 30)
    have xt := box_new w8 #[.int .i64 TP, .int .i64 TQ] 30
    obtain ⟨gt, hgt⟩ : ∃ g, w8.heap.size = g := ⟨_, rfl⟩
    have es0 := box_cell (box_below xs b9) 0 _ rfl
    have es1 := box_cell (box_below xs b9) 1 _ rfl
    have cs0 := box_cell xs 0 _ rfl
    have cs1 := box_cell xs 1 _ rfl
    have ls := lt_of_block xs
    go_wp2_with fail
    clear cs0 cs1 ls
    clear es0 es1
    generalize w8.alloc (.cells #[.int .i64 TP, .int .i64 TQ] 30) = w9 at *
    have B9 := B8.trans (b9.mono B8.size)
    replace xs := box_below xs b9
    replace hx := hx.below b9
    replace hy := hy.below b9
    replace hz := hz.below b9
    replace hu := hu.below b9
    have S9 := b9.size
    clear b9 B8
    rw [hgt] at xt
    try rw [hgt]
    clear hgt
    have K10 := implNearestLinks_law A1 Bq Cq U q1 d1 m d m2 d2 l kc vs rs qs us w9 hx hy hz hu
    rw [HNL.out, HLB.out] at K10
    refine K10.mono ?_
    clear K10
    rintro e w10 ⟨Ai, ci, rfl, oi, b10⟩
    have B10 := B9.trans (b10.mono B9.size)
    replace xs := box_below xs b10
    replace xt := box_below xt b10
    replace hx := hx.below b10
    replace hy := hy.below b10
    replace hz := hz.below b10
    replace hu := hu.below b10
    have S10 := b10.size
    clear b10 B9
    have cs0 := box_cell xs 0 _ rfl
    have cs1 := box_cell xs 1 _ rfl
    have ls := lt_of_block xs
    have ct0 := box_cell xt 0 _ rfl
    have ct1 := box_cell xt 1 _ rfl
    have lt := lt_of_block xt
    go_wp2_with fail
    clear cs0 cs1 ls ct0 ct1 lt
    have K11 := specNearestLinks_law A1 Bq Cq U q1 d1 m d m2 d2 l kc vs rs qs us w10 hx hy hz hu
    rw [HNL.out, HLB.out] at K11
    refine K11.mono ?_
    clear K11
    rintro e w11 ⟨As, cs, rfl, os, b11⟩
    have B11 := B10.trans (b11.mono B10.size)
    replace xs := box_below xs b11
    replace xt := box_below xt b11
    replace hx := hx.below b11
    replace hy := hy.below b11
    replace hz := hz.below b11
    replace hu := hu.below b11
    replace oi := oi.below b11
    have S11 := b11.size
    clear b11 B10
    clear hx hy hz hu
    have k1 : (TB != TB) = false := by simp
    have k2 : (LB != LB) = false := by simp
    have cs0 := box_cell xs 0 _ rfl
    have cs1 := box_cell xs 1 _ rfl
    have ls := lt_of_block xs
    have ct0 := box_cell xt 0 _ rfl
    have ct1 := box_cell xt 1 _ rfl
    have lt := lt_of_block xt
    go_wp2_with fail
    clear cs0 cs1 ls ct0 ct1 lt
    clear xs xt
    have K12 := sameInts_any Ai As _ ci cs NL w11 oi.ints os.ints oi.small
    refine K12.mono ?_
    clear K12
    rintro e w12 ⟨rfl, b12⟩
    have B12 := B11.trans (b12.mono B11.size)
    replace oi := oi.below b12
    replace os := os.below b12
    have S12 := b12.size
    clear b12 B11
    clear oi os
    clear k1 k2
    go_wp2_with fail
    have K13 := drawLeastIdentifying_any a1 n1 c1 w12 (hb1.out.below B12) (by omega)
    refine K13.mono ?_
    clear K13
    rintro e w13 ⟨A2, q2, e2, vs2, B2, mm, dd, iv, rfl, hq2, od, hmm, oc, b13⟩
    have B13 := B12.trans (b13.mono B12.size)
    have S13 := b13.size
    clear b13 B12
    have hx2 := od.readS hq2
    obtain ⟨rs2, hy2⟩ := oc.recs (by omega)
    clear od oc
    have HM := Lib.hid (fun h => lid_met (vs := vs2) (rs := rs2) (i := iv) h)
    obtain ⟨VL, hVL⟩ : ∃ x, (liR vs2 rs2 iv).2 = x := ⟨_, rfl⟩
    obtain ⟨VB, hVB⟩ : ∃ x, (liR vs2 rs2 iv).1 = x := ⟨_, rfl⟩
    rw [hVB, hVL] at HM
    have HVL := Lib.hid hVL
    have HVB := Lib.hid hVB
    clear hVL hVB
    go_wp2_with fail
    have K14 := implLeastIdentifying_law iv A2 B2 q2 e2 mm dd vs2 rs2 w13 hx2 hy2
    rw [HVL.out, HVB.out] at K14
    refine K14.mono ?_
    clear K14
    rintro e w14 ⟨Ai, ci, rfl, oi, b14⟩
    have B14 := B13.trans (b14.mono B13.size)
    replace hx2 := hx2.below b14
    replace hy2 := hy2.below b14
    have S14 := b14.size
    clear b14 B13
    go_wp2_with fail
    have K15 := specLeastIdentifying_law iv A2 B2 q2 e2 mm dd vs2 rs2 w14 hx2 hy2
    rw [HVL.out, HVB.out] at K15
    refine K15.mono ?_
    clear K15
    rintro e w15 ⟨As, cs, rfl, os, b15⟩
    have B15 := B14.trans (b15.mono B14.size)
    replace hx2 := hx2.below b15
    replace hy2 := hy2.below b15
    replace oi := oi.below b15
    have S15 := b15.size
    clear b15 B14
    have k1 : (VB != VB) = false := by simp
    go_wp2_with fail
    have K16 := sameInts_any Ai As _ ci cs VL w15 oi.ints os.ints oi.small
    refine K16.mono ?_
    clear K16
    rintro e w16 ⟨rfl, b16⟩
    have B16 := B15.trans (b16.mono B15.size)
    replace hx2 := hx2.below b16
    replace hy2 := hy2.below b16
    replace oi := oi.below b16
    replace os := os.below b16
    have S16 := b16.size
    clear b16 B15
    clear os
    clear k1
    cases hVB2 : VB
    · clear hx2 hy2 oi
      go_wp2_with fail
      have K17 := drawLeastDiversity_any a1 n1 c1 w16 (hb1.out.below B16) (by omega)
      refine K17.mono ?_
      clear K17
      rintro e w17 ⟨A3, q3, e3, vs3, B3', m3, d3, U3, l3, k3, us3, tg, rfl, hq3, od, hm3, oc, ou, b17⟩
      have B17 := B16.trans (b17.mono B16.size)
      have S17 := b17.size
      clear b17 B16
      have hx3 := od.readS hq3
      obtain ⟨rs3, hy3⟩ := oc.recs (by omega)
      have hu3 := ou.intR
      clear od oc ou
      obtain ⟨DV, hDV⟩ : ∃ x, ldV tg vs3 rs3 us3 = x := ⟨_, rfl⟩
      obtain ⟨DB, hDB⟩ : ∃ x, ldB tg vs3 rs3 us3 = x := ⟨_, rfl⟩
      have HDV := Lib.hid hDV
      have HDB := Lib.hid hDB
      clear hDV hDB
      go_wp2_with fail
      have K18 := implLeastDiversity_law tg A3 B3' U3 q3 e3 m3 d3 l3 k3 vs3 rs3 us3 w17 hx3 hy3 hu3
      rw [HDV.out, HDB.out] at K18
      refine K18.mono ?_
      clear K18
      rintro e w18 ⟨rfl, b18⟩
      have B18 := B17.trans (b18.mono B17.size)
      replace hx3 := hx3.below b18
      replace hy3 := hy3.below b18
      replace hu3 := hu3.below b18
      have S18 := b18.size
      clear b18 B17
      go_wp2_with fail
      have K19 := specLeastDiversity_law tg A3 B3' U3 q3 e3 m3 d3 l3 k3 vs3 rs3 us3 w18 hx3 hy3 hu3
      rw [HDV.out, HDB.out] at K19
      refine K19.mono ?_
      clear K19
      rintro e w19 ⟨rfl, b19⟩
      have B19 := B18.trans (b19.mono B18.size)
      replace hx3 := hx3.below b19
      replace hy3 := hy3.below b19
      replace hu3 := hu3.below b19
      have S19 := b19.size
      clear b19 B18
      clear hx3 hy3 hu3
      have k1 : (DB == DB) = true := by simp
      have k2 : (DV == DV) = true := by simp
      go_wp2
      go_ret
      exact ⟨ret_bool (by simp), B19⟩
    · obtain ⟨hk1, hk2⟩ := HM.out hVB2
      have HK1 := Lib.hid hk1
      clear hk1 hVB2 HM
      obtain ⟨UQ, hUQ⟩ : ∃ x, uqV vs2 rs2 VL = x := ⟨_, rfl⟩
      rw [hUQ] at hk2
      have HK2 := Lib.hid (metU_end.trans hk2)
      clear hk2
      have HUQ := Lib.hid hUQ
      clear hUQ
      go_wp2_with fail
      have K17 := implUniqueRecords_law A2 B2 Ai q2 e2 mm dd _ ci vs2 rs2 VL w16 hx2 hy2 oi.intR
      rw [HUQ.out, HK1.out] at K17
      refine K17.mono ?_
      clear K17
      rintro e w17 ⟨Au, cu, rfl, ou, b17⟩
      have B17 := B16.trans (b17.mono B16.size)
      replace hx2 := hx2.below b17
      replace hy2 := hy2.below b17
      replace oi := oi.below b17
      have S17 := b17.size
      clear b17 B16
      clear hx2 hy2 oi
      have HU := Lib.hid ou.ints
      have hus := ou.small
      have HB1 := Lib.hid B17
      clear ou B17
      go_wp2_with fail
      go_loopw [30, 180] (fun q i wr => ∃ (j : Nat) (b : Bool), j ≤ UQ.length ∧ i = .int .i64 j ∧ q = .bool b ∧ Hid (b = metU UQ iv j) ∧ w17 = wr) (fun _ i _ => UQ.length - (intOf i).toNat)
      case atStart => exact ⟨0, false, Nat.zero_le _, rfl, rfl, Lib.hid rfl, rfl⟩
      case round =>
        obtain ⟨j, b, hj, rfl, rfl, hb, rfl⟩ := hrel
        by_cases hlt : j < UQ.length
        · obtain ⟨adu, rfl, cu2⟩ := HU.out.at_ hlt
          have HS := Lib.hid (metU_succ (v := iv) hlt)
          rw [← hb.out] at HS
          generalize UQ[j]?.getD 0 = x at *
          clear hb
          cases b
          · go_wp2
            go_roundw
            case rel => exact ⟨j + 1, _, by omega, by go_num, rfl, Lib.hid (by rw [HS.out]; simp), trivial⟩
            case measure => simp [intOf]; omega
          · go_wp2
            go_roundw
            case rel => exact ⟨j + 1, _, by omega, by go_num, rfl, Lib.hid (by rw [HS.out]; simp), trivial⟩
            case measure => simp [intOf]; omega
        · obtain rfl : j = UQ.length := by omega
          obtain rfl : b = true := hb.out.trans HK2.out
          have B99 := HB1.out
          clear hb HK2 HU HB1
          go_wp2_with fail
          have K18 := drawLeastDiversity_any a1 n1 c1 w17 (hb1.out.below B99) (by omega)
          refine K18.mono ?_
          clear K18
          rintro e w18 ⟨A3, q3, e3, vs3, B3', m3, d3, U3, l3, k3, us3, tg, rfl, hq3, od, hm3, oc, ou, b18⟩
          have B18 := B99.trans (b18.mono B99.size)
          have S18 := b18.size
          clear b18 B99
          have hx3 := od.readS hq3
          obtain ⟨rs3, hy3⟩ := oc.recs (by omega)
          have hu3 := ou.intR
          clear od oc ou
          obtain ⟨DV, hDV⟩ : ∃ x, ldV tg vs3 rs3 us3 = x := ⟨_, rfl⟩
          obtain ⟨DB, hDB⟩ : ∃ x, ldB tg vs3 rs3 us3 = x := ⟨_, rfl⟩
          have HDV := Lib.hid hDV
          have HDB := Lib.hid hDB
          clear hDV hDB
          go_wp2_with fail
          have K19 := implLeastDiversity_law tg A3 B3' U3 q3 e3 m3 d3 l3 k3 vs3 rs3 us3 w18 hx3 hy3 hu3
          rw [HDV.out, HDB.out] at K19
          refine K19.mono ?_
          clear K19
          rintro e w19 ⟨rfl, b19⟩
          have B19 := B18.trans (b19.mono B18.size)
          replace hx3 := hx3.below b19
          replace hy3 := hy3.below b19
          replace hu3 := hu3.below b19
          have S19 := b19.size
          clear b19 B18
          go_wp2_with fail
          have K20 := specLeastDiversity_law tg A3 B3' U3 q3 e3 m3 d3 l3 k3 vs3 rs3 us3 w19 hx3 hy3 hu3
          rw [HDV.out, HDB.out] at K20
          refine K20.mono ?_
          clear K20
          rintro e w20 ⟨rfl, b20⟩
          have B20 := B19.trans (b20.mono B19.size)
          replace hx3 := hx3.below b20
          replace hy3 := hy3.below b20
          replace hu3 := hu3.below b20
          have S20 := b20.size
          clear b20 B19
          clear hx3 hy3 hu3
          have k1 : (DB == DB) = true := by simp
          have k2 : (DV == DV) = true := by simp
          go_wp2
          go_ret
          exact ⟨ret_bool (by simp), B20⟩
  · have b5 := below_new w4 (.cells #[.int .i64 FP, .int .i64 FQ] 30)
    have xg := box_new w4 #[.int .i64 FP, .int .i64 FQ] 30
    obtain ⟨gg, hgg⟩ : ∃ g, w4.heap.size = g := ⟨_, rfl⟩
    have ef0 := box_cell (box_below xf b5) 0 _ rfl
    have ef1 := box_cell (box_below xf b5) 1 _ rfl
    have cf0 := box_cell xf 0 _ rfl
    have cf1 := box_cell xf 1 _ rfl
    have lf := lt_of_block xf
    go_wp2_with fail
    clear cf0 cf1 lf
    clear ef0 ef1
    generalize w4.alloc (.cells #[.int .i64 FP, .int .i64 FQ] 30) = w5 at *
    have B5 := B4.trans (b5.mono B4.size)
    replace xf := box_below xf b5
    replace hx := hx.below b5
    replace hy := hy.below b5
    replace hz := hz.below b5
    replace hu := hu.below b5
    have S5 := b5.size
    clear b5 B4
    rw [hgg] at xg
    try rw [hgg]
    clear hgg
    clear k1 k2 k3 k4 k5 hf0 hf1
    clear xf xg
    have K6 := implExpectedHits_law A1 Bq Cq U q1 d1 m d m2 d2 l kc vs rs qs us w5 hx hy hz hu
    refine K6.mono ?_
    clear K6
    rintro e w6 ⟨rfl, b6⟩
    rw [HTP.out, HTQ.out, HTB.out]
    have B6 := B5.trans (b6.mono B5.size)
    replace hx := hx.below b6
    replace hy := hy.below b6
    replace hz := hz.below b6
    replace hu := hu.below b6
    have S6 := b6.size
    clear b6 B5
    have b7 := below_new w6 (.cells #[.int .i64 TP, .int .i64 TQ] 30)
    have xs := box_new w6 #[.int .i64 TP, .int .i64 TQ] 30
    obtain ⟨gs, hgs⟩ : ∃ g, w6.heap.size = g := ⟨_, rfl⟩
    go_wp2_with fail
    generalize w6.alloc (.cells #[.int .i64 TP, .int .i64 TQ] 30) = w7 at *
    have B7 := B6.trans (b7.mono B6.size)
    replace hx := hx.below b7
    replace hy := hy.below b7
    replace hz := hz.below b7
    replace hu := hu.below b7
    have S7 := b7.size
    clear b7 B6
    rw [hgs] at xs
    try rw [hgs]
    clear hgs
    have K8 := specExpectedHits_law A1 Bq Cq U q1 d1 m d m2 d2 l kc vs rs qs us w7 hx hy hz hu
    refine K8.mono ?_
    clear K8
    rintro e w8 ⟨rfl, b8⟩
    rw [HTP.out, HTQ.out, HTB.out]
    have B8 := B7.trans (b8.mono B7.size)
    replace xs := box_below xs b8
    replace hx := hx.below b8
    replace hy := hy.below b8
    replace hz := hz.below b8
    replace hu := hu.below b8
    have S8 := b8.size
    clear b8 B7
    have b9 := below_new w8 (.cells #[.int .i64 TP, .int .i64 TQ] 30)
    have xt := box_new w8 #[.int .i64 TP, .int .i64 TQ] 30
    obtain ⟨gt, hgt⟩ : ∃ g, w8.heap.size = g := ⟨_, rfl⟩
    have es0 := box_cell (box_below xs b9) 0 _ rfl
    have es1 := box_cell (box_below xs b9) 1 _ rfl
    have cs0 := box_cell xs 0 _ rfl
    have cs1 := box_cell xs 1 _ rfl
    have ls := lt_of_block xs
    go_wp2_with fail
    clear cs0 cs1 ls
    clear es0 es1
    generalize w8.alloc (.cells #[.int .i64 TP, .int .i64 TQ] 30) = w9 at *
    have B9 := B8.trans (b9.mono B8.size)
    replace xs := box_below xs b9
    replace hx := hx.below b9
    replace hy := hy.below b9
    replace hz := hz.below b9
    replace hu := hu.below b9
    have S9 := b9.size
    clear b9 B8
    rw [hgt] at xt
    try rw [hgt]
    clear hgt
    have K10 := implNearestLinks_law A1 Bq Cq U q1 d1 m d m2 d2 l kc vs rs qs us w9 hx hy hz hu
    rw [HNL.out, HLB.out] at K10
    refine K10.mono ?_
    clear K10
    rintro e w10 ⟨Ai, ci, rfl, oi, b10⟩
    have B10 := B9.trans (b10.mono B9.size)
    replace xs := box_below xs b10
    replace xt := box_below xt b10
    replace hx := hx.below b10
    replace hy := hy.below b10
    replace hz := hz.below b10
    replace hu := hu.below b10
    have S10 := b10.size
    clear b10 B9
    have cs0 := box_cell xs 0 _ rfl
    have cs1 := box_cell xs 1 _ rfl
    have ls := lt_of_block xs
    have ct0 := box_cell xt 0 _ rfl
    have ct1 := box_cell xt 1 _ rfl
    have lt := lt_of_block xt
    go_wp2_with fail
    clear cs0 cs1 ls ct0 ct1 lt
    have K11 := specNearestLinks_law A1 Bq Cq U q1 d1 m d m2 d2 l kc vs rs qs us w10 hx hy hz hu
    rw [HNL.out, HLB.out] at K11
    refine K11.mono ?_
    clear K11
    rintro e w11 ⟨As, cs, rfl, os, b11⟩
    have B11 := B10.trans (b11.mono B10.size)
    replace xs := box_below xs b11
    replace xt := box_below xt b11
    replace hx := hx.below b11
    replace hy := hy.below b11
    replace hz := hz.below b11
    replace hu := hu.below b11
    replace oi := oi.below b11
    have S11 := b11.size
    clear b11 B10
    clear hx hy hz hu
    have k1 : (TB != TB) = false := by simp
    have k2 : (LB != LB) = false := by simp
    have cs0 := box_cell xs 0 _ rfl
    have cs1 := box_cell xs 1 _ rfl
    have ls := lt_of_block xs
    have ct0 := box_cell xt 0 _ rfl
    have ct1 := box_cell xt 1 _ rfl
    have lt := lt_of_block xt
    go_wp2_with fail
    clear cs0 cs1 ls ct0 ct1 lt
    clear xs xt
    have K12 := sameInts_any Ai As _ ci cs NL w11 oi.ints os.ints oi.small
    refine K12.mono ?_
    clear K12
    rintro e w12 ⟨rfl, b12⟩
    have B12 := B11.trans (b12.mono B11.size)
    replace oi := oi.below b12
    replace os := os.below b12
    have S12 := b12.size
    clear b12 B11
    clear oi os
    clear k1 k2
    go_wp2_with fail
    have K13 := drawLeastIdentifying_any a1 n1 c1 w12 (hb1.out.below B12) (by omega)
    refine K13.mono ?_
    clear K13
    rintro e w13 ⟨A2, q2, e2, vs2, B2, mm, dd, iv, rfl, hq2, od, hmm, oc, b13⟩
    have B13 := B12.trans (b13.mono B12.size)
    have S13 := b13.size
    clear b13 B12
    have hx2 := od.readS hq2
    obtain ⟨rs2, hy2⟩ := oc.recs (by omega)
    clear od oc
    have HM := Lib.hid (fun h => lid_met (vs := vs2) (rs := rs2) (i := iv) h)
    obtain ⟨VL, hVL⟩ : ∃ x, (liR vs2 rs2 iv).2 = x := ⟨_, rfl⟩
    obtain ⟨VB, hVB⟩ : ∃ x, (liR vs2 rs2 iv).1 = x := ⟨_, rfl⟩
    rw [hVB, hVL] at HM
    have HVL := Lib.hid hVL
    have HVB := Lib.hid hVB
    clear hVL hVB
    go_wp2_with fail
    have K14 := implLeastIdentifying_law iv A2 B2 q2 e2 mm dd vs2 rs2 w13 hx2 hy2
    rw [HVL.out, HVB.out] at K14
    refine K14.mono ?_
    clear K14
    rintro e w14 ⟨Ai, ci, rfl, oi, b14⟩
    have B14 := B13.trans (b14.mono B13.size)
    replace hx2 := hx2.below b14
    replace hy2 := hy2.below b14
    have S14 := b14.size
    clear b14 B13
    go_wp2_with fail
    have K15 := specLeastIdentifying_law iv A2 B2 q2 e2 mm dd vs2 rs2 w14 hx2 hy2
    rw [HVL.out, HVB.out] at K15
    refine K15.mono ?_
    clear K15
    rintro e w15 ⟨As, cs, rfl, os, b15⟩
    have B15 := B14.trans (b15.mono B14.size)
    replace hx2 := hx2.below b15
    replace hy2 := hy2.below b15
    replace oi := oi.below b15
    have S15 := b15.size
    clear b15 B14
    have k1 : (VB != VB) = false := by simp
    go_wp2_with fail
    have K16 := sameInts_any Ai As _ ci cs VL w15 oi.ints os.ints oi.small
    refine K16.mono ?_
    clear K16
    rintro e w16 ⟨rfl, b16⟩
    have B16 := B15.trans (b16.mono B15.size)
    replace hx2 := hx2.below b16
    replace hy2 := hy2.below b16
    replace oi := oi.below b16
    replace os := os.below b16
    have S16 := b16.size
    clear b16 B15
    clear os
    clear k1
    cases hVB2 : VB
    · clear hx2 hy2 oi
      go_wp2_with fail
      have K17 := drawLeastDiversity_any a1 n1 c1 w16 (hb1.out.below B16) (by omega)
      refine K17.mono ?_
      clear K17
      rintro e w17 ⟨A3, q3, e3, vs3, B3', m3, d3, U3, l3, k3, us3, tg, rfl, hq3, od, hm3, oc, ou, b17⟩
      have B17 := B16.trans (b17.mono B16.size)
      have S17 := b17.size
      clear b17 B16
      have hx3 := od.readS hq3
      obtain ⟨rs3, hy3⟩ := oc.recs (by omega)
      have hu3 := ou.intR
      clear od oc ou
      obtain ⟨DV, hDV⟩ : ∃ x, ldV tg vs3 rs3 us3 = x := ⟨_, rfl⟩
      obtain ⟨DB, hDB⟩ : ∃ x, ldB tg vs3 rs3 us3 = x := ⟨_, rfl⟩
      have HDV := Lib.hid hDV
      have HDB := Lib.hid hDB
      clear hDV hDB
      go_wp2_with fail
      have K18 := implLeastDiversity_law tg A3 B3' U3 q3 e3 m3 d3 l3 k3 vs3 rs3 us3 w17 hx3 hy3 hu3
      rw [HDV.out, HDB.out] at K18
      refine K18.mono ?_
      clear K18
      rintro e w18 ⟨rfl, b18⟩
      have B18 := B17.trans (b18.mono B17.size)
      replace hx3 := hx3.below b18
      replace hy3 := hy3.below b18
      replace hu3 := hu3.below b18
      have S18 := b18.size
      clear b18 B17
      go_wp2_with fail
      have K19 := specLeastDiversity_law tg A3 B3' U3 q3 e3 m3 d3 l3 k3 vs3 rs3 us3 w18 hx3 hy3 hu3
      rw [HDV.out, HDB.out] at K19
      refine K19.mono ?_
      clear K19
      rintro e w19 ⟨rfl, b19⟩
      have B19 := B18.trans (b19.mono B18.size)
      replace hx3 := hx3.below b19
      replace hy3 := hy3.below b19
      replace hu3 := hu3.below b19
      have S19 := b19.size
      clear b19 B18
      clear hx3 hy3 hu3
      have k1 : (DB == DB) = true := by simp
      have k2 : (DV == DV) = true := by simp
      go_wp2
      go_ret
      exact ⟨ret_bool (by simp), B19⟩
    · obtain ⟨hk1, hk2⟩ := HM.out hVB2
      have HK1 := Lib.hid hk1
      clear hk1 hVB2 HM
      obtain ⟨UQ, hUQ⟩ : ∃ x, uqV vs2 rs2 VL = x := ⟨_, rfl⟩
      rw [hUQ] at hk2
      have HK2 := Lib.hid (metU_end.trans hk2)
      clear hk2
      have HUQ := Lib.hid hUQ
      clear hUQ
      go_wp2_with fail
      have K17 := implUniqueRecords_law A2 B2 Ai q2 e2 mm dd _ ci vs2 rs2 VL w16 hx2 hy2 oi.intR
      rw [HUQ.out, HK1.out] at K17
      refine K17.mono ?_
      clear K17
      rintro e w17 ⟨Au, cu, rfl, ou, b17⟩
      have B17 := B16.trans (b17.mono B16.size)
      replace hx2 := hx2.below b17
      replace hy2 := hy2.below b17
      replace oi := oi.below b17
      have S17 := b17.size
      clear b17 B16
      clear hx2 hy2 oi
      have HU := Lib.hid ou.ints
      have hus := ou.small
      have HB1 := Lib.hid B17
      clear ou B17
      go_wp2_with fail
      go_loopw [30, 180] (fun q i wr => ∃ (j : Nat) (b : Bool), j ≤ UQ.length ∧ i = .int .i64 j ∧ q = .bool b ∧ Hid (b = metU UQ iv j) ∧ w17 = wr) (fun _ i _ => UQ.length - (intOf i).toNat)
      case atStart => exact ⟨0, false, Nat.zero_le _, rfl, rfl, Lib.hid rfl, rfl⟩
      case round =>
        obtain ⟨j, b, hj, rfl, rfl, hb, rfl⟩ := hrel
        by_cases hlt : j < UQ.length
        · obtain ⟨adu, rfl, cu2⟩ := HU.out.at_ hlt
          have HS := Lib.hid (metU_succ (v := iv) hlt)
          rw [← hb.out] at HS
          generalize UQ[j]?.getD 0 = x at *
          clear hb
          cases b
          · go_wp2
            go_roundw
            case rel => exact ⟨j + 1, _, by omega, by go_num, rfl, Lib.hid (by rw [HS.out]; simp), trivial⟩
            case measure => simp [intOf]; omega
          · go_wp2
            go_roundw
            case rel => exact ⟨j + 1, _, by omega, by go_num, rfl, Lib.hid (by rw [HS.out]; simp), trivial⟩
            case measure => simp [intOf]; omega
        · obtain rfl : j = UQ.length := by omega
          obtain rfl : b = true := hb.out.trans HK2.out
          have B99 := HB1.out
          clear hb HK2 HU HB1
          go_wp2_with fail
          have K18 := drawLeastDiversity_any a1 n1 c1 w17 (hb1.out.below B99) (by omega)
          refine K18.mono ?_
          clear K18
          rintro e w18 ⟨A3, q3, e3, vs3, B3', m3, d3, U3, l3, k3, us3, tg, rfl, hq3, od, hm3, oc, ou, b18⟩
          have B18 := B99.trans (b18.mono B99.size)
          have S18 := b18.size
          clear b18 B99
          have hx3 := od.readS hq3
          obtain ⟨rs3, hy3⟩ := oc.recs (by omega)
          have hu3 := ou.intR
          clear od oc ou
          obtain ⟨DV, hDV⟩ : ∃ x, ldV tg vs3 rs3 us3 = x := ⟨_, rfl⟩
          obtain ⟨DB, hDB⟩ : ∃ x, ldB tg vs3 rs3 us3 = x := ⟨_, rfl⟩
          have HDV := Lib.hid hDV
          have HDB := Lib.hid hDB
          clear hDV hDB
          go_wp2_with fail
          have K19 := implLeastDiversity_law tg A3 B3' U3 q3 e3 m3 d3 l3 k3 vs3 rs3 us3 w18 hx3 hy3 hu3
          rw [HDV.out, HDB.out] at K19
          refine K19.mono ?_
          clear K19
          rintro e w19 ⟨rfl, b19⟩
          have B19 := B18.trans (b19.mono B18.size)
          replace hx3 := hx3.below b19
          replace hy3 := hy3.below b19
          replace hu3 := hu3.below b19
          have S19 := b19.size
          clear b19 B18
          go_wp2_with fail
          have K20 := specLeastDiversity_law tg A3 B3' U3 q3 e3 m3 d3 l3 k3 vs3 rs3 us3 w19 hx3 hy3 hu3
          rw [HDV.out, HDB.out] at K20
          refine K20.mono ?_
          clear K20
          rintro e w20 ⟨rfl, b20⟩
          have B20 := B19.trans (b20.mono B19.size)
          replace hx3 := hx3.below b20
          replace hy3 := hy3.below b20
          replace hu3 := hu3.below b20
          have S20 := b20.size
          clear b20 B19
          clear hx3 hy3 hu3
          have k1 : (DB == DB) = true := by simp
          have k2 : (DV == DV) = true := by simp
          go_wp2
          go_ret
          exact ⟨ret_bool (by simp), B20⟩
end Go.Proofs.YtgeilnkglbcmeaaGreat
