/- The walk of the law FnSwaps, printed by gfx.py. -/
import Derived.Test.YtahbcnclhohnaaaGreatFsU
import Derived.Test.YtahbcnclhohnaaaGreatFsT
import Derived.Test.YtahbcnclhohnaaaGreatFsF
import Derived.Test.YtahbcnclhohnaaaGreatFsG
import Derived.Test.YtahbcnclhohnaaaGreatFsE
import Derived.Test.YtahbcnclhohnaaaGreatIwL
import Derived.Test.YtahbcnclhohnaaaGreatZo
import Derived.Test.YtahbcnclhohnaaaGreatZs
namespace Go.Proofs.YtahbcnclhohnaaaGreat
open Go.RowKit

theorem DVr.readS {w : World} {lo n c : Nat} {A : Option Addr} {vs : List (ByteArray × Int)} (h : DVr w lo A n c vs) (hn : n ≤ 8) : SchR w A n c vs := h.sch (by omega)
theorem OwnII.rowS {w : World} {lo hi n c : Nat} {A : Option Addr} {L : Nat → List Int} (h : OwnII w lo hi A n c L) : ∀ t, t < n → (L t).length ≤ 1099511627776 := fun t ht => by
  obtain ⟨ys, ho, hs⟩ := h.cells
  obtain ⟨V, m, _, hV⟩ := hs.row t (Nat.zero_le _) ht
  exact hV.small
theorem plan_spV {vs : List (ByteArray × Int)} {rs : List RecD} {us : List Int} {most sd : Int} (h : spB vs rs us most sd = true) : PlanOk vs rs us (spV vs rs us most sd) ∧ keyedB vs rs us = true := by
  unfold spB at h
  unfold spV
  cases e : planV vs rs us most sd with
  | none => rw [e] at h; cases h
  | some P => exact planV_ok e

set_option maxRecDepth 100000 in
set_option maxHeartbeats 4000000 in
theorem walk_FnSwaps (a0 : Option Addr) (n0 c0 : Nat) (z0 : List Int) (a1 : Option Addr) (n1 c1 : Nat) (z1 : List Int) (w : World) (r0 : Bytes w a0 n0 z0) (m0 : n0 ≤ maxLen) (f0 : ∀ x ∈ z0, (Lit.int .u8 x).wf = true) (r1 : Bytes w a1 n1 z1) (m1 : n1 ≤ maxLen) (f1 : ∀ x ∈ z1, (Lit.int .u8 x).wf = true) :
    Calls Tryz.prog 3 #[.slice a0 n0 c0, .slice a1 n1 c1] w fun e w' => e = .returned (.bool true) ∧ Below w.heap.size w w' := by
  have hb0 := Lib.hid (byt_of r0 f0)
  have hb1 := Lib.hid (byt_of r1 f1)
  have B0 := Below.refl w.heap.size w
  have mL := m0
  unfold maxLen at m0 m1
  clear r0 f0 r1 f1
  go_enter Tryz.func3, Tryz.ntmps3
  go_wp2_with fail
  refine (big_any a0 a1 n0 c0 n1 c1 w mL).mono ?_
  clear mL
  rintro e w' ⟨rfl, rfl⟩
  cases hbig : bigB n0 n1
  rotate_left
  · clear hbig
    go_wp2
    go_ret
    exact ⟨rfl, B0⟩
  clear hbig
  go_wp2_with fail
  have K1 := drawSwapPlan_any a0 n0 c0 w (hb0.out.below B0) (by omega)
  refine K1.mono ?_
  clear K1
  rintro e w1 ⟨A1, q1, d1, vs, Bq, m, d, U, l, kc, us, x, y, rfl, hq1, od, hm, or_, hl, ou, b1⟩
  have B1 := B0.trans (b1.mono B0.size)
  have S1 := b1.size
  clear b1 B0
  have hx := od.readS hq1
  obtain ⟨rs, hy⟩ := or_.recs (by omega)
  have hu := ou.intR
  clear od or_ ou
  have HPL := Lib.hid (fun h => plan_spV (vs := vs) (rs := rs) (us := us) (most := x) (sd := y) h)
  have HPB := Lib.hid (spV_in vs rs us x y).1
  have HPR := Lib.hid (spV_row vs rs us x y)
  obtain ⟨P, hP⟩ : ∃ P, spV vs rs us x y = P := ⟨_, rfl⟩
  obtain ⟨OK, hOK⟩ : ∃ OK, spB vs rs us x y = OK := ⟨_, rfl⟩
  rw [hP, hOK] at HPL
  rw [hP] at HPB HPR
  have HP := Lib.hid hP
  have HOK := Lib.hid hOK
  have hp60 := HPB.out
  have HML := Lib.hid hy.len
  clear hP hOK HPB
  go_wp2_with fail
  have K2 := implSwapPlan_law y x A1 Bq U q1 d1 m d l kc vs rs us w1 hx hy hu
  rw [HP.out, HOK.out] at K2
  refine K2.mono ?_
  clear K2
  rintro e w2 ⟨Ai, ci, rfl, oi, b2⟩
  have B2 := B1.trans (b2.mono B1.size)
  replace hx := hx.below b2
  replace hy := hy.below b2
  replace hu := hu.below b2
  have S2 := b2.size
  clear b2 B1
  go_wp2_with fail
  have K3 := specSwapPlan_law y x A1 Bq U q1 d1 m d l kc vs rs us w2 hx hy hu
  rw [HP.out, HOK.out] at K3
  refine K3.mono ?_
  clear K3
  rintro e w3 ⟨As, cs, rfl, os, b3⟩
  have B3 := B2.trans (b3.mono B2.size)
  replace hx := hx.below b3
  replace hy := hy.below b3
  replace hu := hu.below b3
  replace oi := oi.below b3
  have S3 := b3.size
  clear b3 B2
  have k1 : (OK != OK) = false := by simp
  go_wp2_with fail
  have K4 := sameLists_any Ai As _ ci cs (fun t => P[t]?.getD []) w3 oi.read os.read oi.small (fun j _ => by have := HPR.out j; omega)
  refine K4.mono ?_
  clear K4
  rintro e w4 ⟨rfl, b4⟩
  have B4 := B3.trans (b4.mono B3.size)
  replace hx := hx.below b4
  replace hy := hy.below b4
  replace hu := hu.below b4
  replace oi := oi.below b4
  replace os := os.below b4
  have S4 := b4.size
  clear b4 B3
  clear os
  clear k1
  cases hOK2 : OK
  · clear hx hy hu oi
    go_wp2_with fail
    have K5 := drawIsSwapPlan_any a1 n1 c1 w4 (hb1.out.below B4) (by omega)
    refine K5.mono ?_
    clear K5
    rintro e w5 ⟨A2, q2, d2, vs2, C1, mm, dd, U2, l2, k2, us2, P2, R2, cp2, rfl, hq2, od, hmm, oc, hl2, ou, op, b5⟩
    have B5 := B4.trans (b5.mono B4.size)
    have S5 := b5.size
    clear b5 B4
    have hx2 := od.readS hq2
    obtain ⟨rs2, hy2⟩ := oc.recs (by omega)
    have hu2 := ou.intR
    have hr2 := op.read
    have hs2 := op.small
    have HRW := Lib.hid op.rowS
    clear od oc ou op
    obtain ⟨KB, hKB⟩ : ∃ KB, keyedB vs2 rs2 us2 = KB := ⟨_, rfl⟩
    obtain ⟨IS, hIS⟩ : ∃ IS, isPl vs2 rs2 us2 R2 = IS := ⟨_, rfl⟩
    obtain ⟨fn, hfn⟩ : ∃ q, fN (srO vs2 rs2 R2) = q := ⟨_, rfl⟩
    obtain ⟨fd, hfd⟩ : ∃ q, fD (srO vs2 rs2 R2) = q := ⟨_, rfl⟩
    obtain ⟨fb, hfb⟩ : ∃ q, fB (srO vs2 rs2 R2) = q := ⟨_, rfl⟩
    have HKB := Lib.hid hKB
    have HIS := Lib.hid hIS
    have HFN := Lib.hid hfn
    have HFD := Lib.hid hfd
    have HFB := Lib.hid hfb
    clear hKB hIS hfn hfd hfb
    go_wp2_with fail
    have K6 := implIsSwapPlan_any A2 C1 U2 P2 q2 d2 mm dd l2 k2 cp2 vs2 rs2 us2 R2 w5 hx2 hy2 hu2 hr2 hs2 HRW.out
    rw [HKB.out, HIS.out] at K6
    refine K6.mono ?_
    clear K6
    rintro e w6 ⟨rfl, b6⟩
    have B6 := B5.trans (b6.mono B5.size)
    replace hx2 := hx2.below b6
    replace hy2 := hy2.below b6
    replace hu2 := hu2.below b6
    replace hr2 := hr2.below b6
    have S6 := b6.size
    clear b6 B5
    go_wp2_with fail
    have K7 := specIsSwapPlan_any A2 C1 U2 P2 q2 d2 mm dd l2 k2 cp2 vs2 rs2 us2 R2 w6 hx2 hy2 hu2 hr2 hs2 HRW.out
    rw [HKB.out, HIS.out] at K7
    refine K7.mono ?_
    clear K7
    rintro e w7 ⟨rfl, b7⟩
    have B7 := B6.trans (b7.mono B6.size)
    replace hx2 := hx2.below b7
    replace hy2 := hy2.below b7
    replace hu2 := hu2.below b7
    replace hr2 := hr2.below b7
    have S7 := b7.size
    clear b7 B6
    have k1 : (KB != KB) = false := by simp
    have k2 : ((KB && IS) != (KB && IS)) = false := by simp
    clear hu2
    go_wp2_with fail
    clear k1 k2
    have K8 := implSwapRate_any A2 C1 P2 q2 d2 mm dd cp2 vs2 rs2 R2 w7 hx2 hy2 hr2 hs2 HRW.out
    rw [HFN.out, HFD.out, HFB.out] at K8
    refine K8.mono ?_
    clear K8
    rintro e w8 ⟨rfl, b8⟩
    have B8 := B7.trans (b8.mono B7.size)
    replace hx2 := hx2.below b8
    replace hy2 := hy2.below b8
    replace hr2 := hr2.below b8
    have S8 := b8.size
    clear b8 B7
    have b9 := below_new w8 (.cells #[.int .i64 fn, .int .i64 fd] 46)
    have xf := box_new w8 #[.int .i64 fn, .int .i64 fd] 46
    obtain ⟨gf, hgf⟩ : ∃ g, w8.heap.size = g := ⟨_, rfl⟩
    go_wp2_with fail
    generalize w8.alloc (.cells #[.int .i64 fn, .int .i64 fd] 46) = w9 at *
    have B9 := B8.trans (b9.mono B8.size)
    replace hx2 := hx2.below b9
    replace hy2 := hy2.below b9
    replace hr2 := hr2.below b9
    have S9 := b9.size
    clear b9 B8
    rw [hgf] at xf
    try rw [hgf]
    clear hgf
    have K10 := specSwapRate_any A2 C1 P2 q2 d2 mm dd cp2 vs2 rs2 R2 w9 hx2 hy2 hr2 hs2 HRW.out
    rw [HFN.out, HFD.out, HFB.out] at K10
    refine K10.mono ?_
    clear K10
    rintro e w10 ⟨rfl, b10⟩
    have B10 := B9.trans (b10.mono B9.size)
    replace xf := box_below xf b10
    replace hx2 := hx2.below b10
    replace hy2 := hy2.below b10
    replace hr2 := hr2.below b10
    have S10 := b10.size
    clear b10 B9
    clear hx2 hy2 hr2
    have k5 : (fb == fb) = true := by simp
    have cf0 := box_cell xf 0 _ rfl
    have cf1 := box_cell xf 1 _ rfl
    have lf := lt_of_block xf
    have HBZ := Lib.hid (B10.trans ((below_new w10 (.cells #[.int .i64 fn, .int .i64 fd] 46)).mono B10.size))
    go_wp2
    go_ret
    exact ⟨rfl, HBZ.out⟩
  · obtain ⟨hpl, hkb⟩ := HPL.out hOK2
    have hdin : dinB vs rs = true := by have h := hkb; unfold keyedB at h; unfold dinB; simp only [Bool.and_eq_true] at h ⊢; exact ⟨h.1, h.2.1⟩
    have HBK := Lib.hid (swK_back hpl.ap)
    have HIS := Lib.hid hpl.is
    have HPP := Lib.hid hpl.pairs
    have HKY := Lib.hid hkb
    have HDN := Lib.hid hdin
    have HSK := Lib.hid (swap_keyed hpl hkb)
    have HCN := Lib.hid (fun kl => swap_cnt hpl kl HML.out)
    have HMV := Lib.hid (swap_moved hpl HML.out)
    have HLE := Lib.hid (fun L s (h1 : L.Nodup) h2 h3 => swap_le hpl HML.out (L := L) (s := s) h1 h2 h3)
    have HRV := Lib.hid (fun i (_ : i < m) => (swK_rV hpl (Nat.le_refl _) i).symm)
    have HBL := Lib.hid ((swK_len rs P P.length).trans HML.out)
    have HSD : Hid (dinB vs (swK rs P P.length) = true) := Lib.hid (by have h := HSK.out; unfold keyedB at h; unfold dinB; simp only [Bool.and_eq_true] at h ⊢; exact ⟨h.1, h.2.1⟩)
    have HSD2 : Hid (dataB vs (swK rs P P.length) = true) := Lib.hid (by have h := HSD.out; unfold dinB at h; rw [Bool.and_eq_true] at h; exact h.2)
    have HPP2 : Hid (pairsB P (swK rs P P.length).length = true) := Lib.hid (by rw [swK_len]; exact HPP.out)
    obtain ⟨bs, hbs⟩ : ∃ bs, swK rs P P.length = bs := ⟨_, rfl⟩
    rw [hbs] at HBK HSK HCN HMV HRV HBL HSD HSD2 HPP2
    have HBS := Lib.hid hbs
    have hps := oi.small
    have hpi := oi.read
    clear hpl hkb hdin hOK2 HPL hbs oi
    go_wp2_with fail
    have K5 := implIsSwapPlan_any A1 Bq U Ai q1 d1 m d l kc ci vs rs us P w4 hx hy hu hpi hps (fun t _ => by have := HPR.out t; omega)
    rw [HKY.out, HIS.out] at K5
    refine K5.mono ?_
    clear K5
    rintro e w5 ⟨rfl, b5⟩
    have B5 := B4.trans (b5.mono B4.size)
    replace hx := hx.below b5
    replace hy := hy.below b5
    replace hu := hu.below b5
    replace hpi := hpi.below b5
    have S5 := b5.size
    clear b5 B4
    go_wp2_with fail
    have K6 := implApplySwaps_any A1 Bq Ai q1 d1 m d ci vs rs P w5 hx hy hpi hps (fun t _ => by have := HPR.out t; omega) HDN.out HPP.out
    rw [HBS.out] at K6
    refine K6.mono ?_
    clear K6
    rintro e w6 ⟨E1, e1, rfl, dr, b6⟩
    have B6 := B5.trans (b6.mono B5.size)
    replace hx := hx.below b6
    replace hy := hy.below b6
    replace hu := hu.below b6
    replace hpi := hpi.below b6
    have S6 := b6.size
    clear b6 B5
    have hbd := dr.recs (by omega)
    clear dr
    go_wp2_with fail
    have K7 := implApplySwaps_any A1 E1 Ai q1 d1 m e1 ci vs bs P w6 hx hbd hpi hps (fun t _ => by have := HPR.out t; omega) HSD.out HPP2.out
    rw [HBK.out] at K7
    refine K7.mono ?_
    clear K7
    rintro e w7 ⟨E2, e2, rfl, dr, b7⟩
    have B7 := B6.trans (b7.mono B6.size)
    replace hx := hx.below b7
    replace hy := hy.below b7
    replace hu := hu.below b7
    replace hpi := hpi.below b7
    replace hbd := hbd.below b7
    have S7 := b7.size
    clear b7 B6
    have hbk := dr.recs (by omega)
    clear dr
    clear hpi
    go_wp2_with fail
    have K8 := implKeepsCounts_any A1 Bq E1 U q1 d1 m d e1 l kc vs rs bs us w7 hx hy hbd hu HKY.out HSK.out HCN.out
    refine K8.mono ?_
    clear K8
    rintro e w8 ⟨rfl, b8⟩
    have B8 := B7.trans (b8.mono B7.size)
    replace hx := hx.below b8
    replace hy := hy.below b8
    replace hu := hu.below b8
    replace hbd := hbd.below b8
    replace hbk := hbk.below b8
    have S8 := b8.size
    clear b8 B7
    go_wp2_with fail
    have K9 := implGreatestSwaps_any A1 Bq U q1 d1 m d l kc vs rs us w8 hx hy hu HKY.out
    refine K9.mono ?_
    clear K9
    rintro e w9 ⟨sM, LM, rfl, hnd, hin, hsum, b9⟩
    have B9 := B8.trans (b9.mono B8.size)
    replace hx := hx.below b9
    replace hy := hy.below b9
    replace hu := hu.below b9
    replace hbd := hbd.below b9
    replace hbk := hbk.below b9
    have S9 := b9.size
    clear b9 B8
    have hle := HLE.out LM sM hnd hin hsum
    have HSB := Lib.hid hsum.2
    have HD1 : Hid (decide (sM < (P.length : Int)) = false) := Lib.hid (decide_eq_false (by omega))
    clear hnd hin hsum hle
    clear hu
    go_wp2_with fail
    have K10 := implMovedRecords_any A1 Bq E1 q1 d1 m d e1 vs rs bs w9 hx hy hbd HDN.out HSD2.out HRV.out
    rw [HMV.out] at K10
    refine K10.mono ?_
    clear K10
    rintro e w10 ⟨E3, e3, rfl, b10⟩
    have B10 := B9.trans (b10.mono B9.size)
    replace hx := hx.below b10
    replace hy := hy.below b10
    replace hbd := hbd.below b10
    replace hbk := hbk.below b10
    have S10 := b10.size
    clear b10 B9
    clear hx hbd
    go_wp2_with fail
    have K11 := pSameRecords_any E2 Bq m e2 d rs w10 hbk hy
    refine K11.mono ?_
    clear K11
    rintro e w11 ⟨rfl, b11⟩
    have B11 := B10.trans (b11.mono B10.size)
    replace hy := hy.below b11
    replace hbk := hbk.below b11
    have S11 := b11.size
    clear b11 B10
    clear hbk hy
    have d1 := HD1.out
    have d2 : (((2 * P.length : Nat) : Int) != 2 * (P.length : Int)) = false := by simp
    have d3 : IntKind.i64.wrap (2 * (P.length : Int)) = 2 * (P.length : Int) := IntWalk.i64_in _ (by omega)
    clear HBK HIS HPP HKY HDN HSK HCN HMV HLE HRV HBL HSD HSD2 HPP2 HBS HD1 HSB
    go_wp2_with fail
    clear d1 d2 d3
    have K12 := drawIsSwapPlan_any a1 n1 c1 w11 (hb1.out.below B11) (by omega)
    refine K12.mono ?_
    clear K12
    rintro e w12 ⟨A2, q2, d2, vs2, C1, mm, dd, U2, l2, k2, us2, P2, R2, cp2, rfl, hq2, od, hmm, oc, hl2, ou, op, b12⟩
    have B12 := B11.trans (b12.mono B11.size)
    have S12 := b12.size
    clear b12 B11
    have hx2 := od.readS hq2
    obtain ⟨rs2, hy2⟩ := oc.recs (by omega)
    have hu2 := ou.intR
    have hr2 := op.read
    have hs2 := op.small
    have HRW := Lib.hid op.rowS
    clear od oc ou op
    obtain ⟨KB, hKB⟩ : ∃ KB, keyedB vs2 rs2 us2 = KB := ⟨_, rfl⟩
    obtain ⟨IS, hIS⟩ : ∃ IS, isPl vs2 rs2 us2 R2 = IS := ⟨_, rfl⟩
    obtain ⟨fn, hfn⟩ : ∃ q, fN (srO vs2 rs2 R2) = q := ⟨_, rfl⟩
    obtain ⟨fd, hfd⟩ : ∃ q, fD (srO vs2 rs2 R2) = q := ⟨_, rfl⟩
    obtain ⟨fb, hfb⟩ : ∃ q, fB (srO vs2 rs2 R2) = q := ⟨_, rfl⟩
    have HKB := Lib.hid hKB
    have HIS := Lib.hid hIS
    have HFN := Lib.hid hfn
    have HFD := Lib.hid hfd
    have HFB := Lib.hid hfb
    clear hKB hIS hfn hfd hfb
    go_wp2_with fail
    have K13 := implIsSwapPlan_any A2 C1 U2 P2 q2 d2 mm dd l2 k2 cp2 vs2 rs2 us2 R2 w12 hx2 hy2 hu2 hr2 hs2 HRW.out
    rw [HKB.out, HIS.out] at K13
    refine K13.mono ?_
    clear K13
    rintro e w13 ⟨rfl, b13⟩
    have B13 := B12.trans (b13.mono B12.size)
    replace hx2 := hx2.below b13
    replace hy2 := hy2.below b13
    replace hu2 := hu2.below b13
    replace hr2 := hr2.below b13
    have S13 := b13.size
    clear b13 B12
    go_wp2_with fail
    have K14 := specIsSwapPlan_any A2 C1 U2 P2 q2 d2 mm dd l2 k2 cp2 vs2 rs2 us2 R2 w13 hx2 hy2 hu2 hr2 hs2 HRW.out
    rw [HKB.out, HIS.out] at K14
    refine K14.mono ?_
    clear K14
    rintro e w14 ⟨rfl, b14⟩
    have B14 := B13.trans (b14.mono B13.size)
    replace hx2 := hx2.below b14
    replace hy2 := hy2.below b14
    replace hu2 := hu2.below b14
    replace hr2 := hr2.below b14
    have S14 := b14.size
    clear b14 B13
    have k1 : (KB != KB) = false := by simp
    have k2 : ((KB && IS) != (KB && IS)) = false := by simp
    clear hu2
    go_wp2_with fail
    clear k1 k2
    have K15 := implSwapRate_any A2 C1 P2 q2 d2 mm dd cp2 vs2 rs2 R2 w14 hx2 hy2 hr2 hs2 HRW.out
    rw [HFN.out, HFD.out, HFB.out] at K15
    refine K15.mono ?_
    clear K15
    rintro e w15 ⟨rfl, b15⟩
    have B15 := B14.trans (b15.mono B14.size)
    replace hx2 := hx2.below b15
    replace hy2 := hy2.below b15
    replace hr2 := hr2.below b15
    have S15 := b15.size
    clear b15 B14
    have b16 := below_new w15 (.cells #[.int .i64 fn, .int .i64 fd] 46)
    have xf := box_new w15 #[.int .i64 fn, .int .i64 fd] 46
    obtain ⟨gf, hgf⟩ : ∃ g, w15.heap.size = g := ⟨_, rfl⟩
    go_wp2_with fail
    generalize w15.alloc (.cells #[.int .i64 fn, .int .i64 fd] 46) = w16 at *
    have B16 := B15.trans (b16.mono B15.size)
    replace hx2 := hx2.below b16
    replace hy2 := hy2.below b16
    replace hr2 := hr2.below b16
    have S16 := b16.size
    clear b16 B15
    rw [hgf] at xf
    try rw [hgf]
    clear hgf
    have K17 := specSwapRate_any A2 C1 P2 q2 d2 mm dd cp2 vs2 rs2 R2 w16 hx2 hy2 hr2 hs2 HRW.out
    rw [HFN.out, HFD.out, HFB.out] at K17
    refine K17.mono ?_
    clear K17
    rintro e w17 ⟨rfl, b17⟩
    have B17 := B16.trans (b17.mono B16.size)
    replace xf := box_below xf b17
    replace hx2 := hx2.below b17
    replace hy2 := hy2.below b17
    replace hr2 := hr2.below b17
    have S17 := b17.size
    clear b17 B16
    clear hx2 hy2 hr2
    have k5 : (fb == fb) = true := by simp
    have cf0 := box_cell xf 0 _ rfl
    have cf1 := box_cell xf 1 _ rfl
    have lf := lt_of_block xf
    have HBZ := Lib.hid (B17.trans ((below_new w17 (.cells #[.int .i64 fn, .int .i64 fd] 46)).mono B17.size))
    go_wp2
    go_ret
    exact ⟨rfl, HBZ.out⟩
end Go.Proofs.YtahbcnclhohnaaaGreat
