/- The walk of the law FnLinks, printed by glk.py. -/
import Derived.Test.YtgeilnkglbcmeaaZi
import Derived.Test.YtgeilnkglbcmeaaZp
import Derived.Test.YtgeilnkglbcmeaaZs
namespace Go.Proofs.Ytgeilnkglbcmeaa
open Go.RowKit

theorem DVr.readS {w : World} {lo n c : Nat} {A : Option Addr} {vs : List (ByteArray × Int)} (h : DVr w lo A n c vs) (hn : n ≤ 8) : SchR w A n c vs := h.sch (by omega)

set_option maxRecDepth 100000 in
set_option maxHeartbeats 4000000 in
theorem walk_FnLinks (a0 : Option Addr) (n0 c0 : Nat) (z0 : List Int) (a1 : Option Addr) (n1 c1 : Nat) (z1 : List Int) (w : World) (r0 : Bytes w a0 n0 z0) (m0 : n0 ≤ maxLen) (f0 : ∀ x ∈ z0, (Lit.int .u8 x).wf = true) (r1 : Bytes w a1 n1 z1) (m1 : n1 ≤ maxLen) (f1 : ∀ x ∈ z1, (Lit.int .u8 x).wf = true) :
    Calls Try.prog 5 #[.slice a0 n0 c0, .slice a1 n1 c1] w fun e w' => e = .returned (.bool true) ∧ Below w.heap.size w w' := by
  have hb0 := Lib.hid (byt_of r0 f0)
  have hb1 := Lib.hid (byt_of r1 f1)
  have B0 := Below.refl w.heap.size w
  have mL := m0
  unfold maxLen at m0 m1
  clear r0 f0 r1 f1
  go_enter Try.func5, Try.ntmps5
  go_wp2_with fail
  refine (big_any a0 a1 n0 c0 n1 c1 w mL).mono ?_
  clear mL
  rintro e w' ⟨rfl, rfl⟩
  cases hbig : bigB n0 n1
  rotate_left
  · clear hbig
    go_wp2
    go_ret
    exact ⟨rfl, B0⟩
  clear hbig
  go_wp2_with fail
  have K1 := drawClassSizes_any a0 n0 c0 w (hb0.out.below B0) (by omega)
  refine K1.mono ?_
  clear K1
  rintro e w1 ⟨A1, q1, d1, vs, Bq, m, d, U, l, kc, us, rfl, hq1, od, hm, or_, hl, ou, b1⟩
  have B1 := B0.trans (b1.mono B0.size)
  have S1 := b1.size
  clear b1 B0
  have hx := od.readS hq1
  obtain ⟨rs, hy⟩ := or_.recs (by omega)
  have hu := ou.intR
  clear od or_ ou
  obtain ⟨CS, hCS⟩ : ∃ CS, csV vs rs us = CS := ⟨_, rfl⟩
  obtain ⟨UQ, hUQ⟩ : ∃ UQ, uqV vs rs us = UQ := ⟨_, rfl⟩
  obtain ⟨KB, hKB⟩ : ∃ KB, keyedB vs rs us = KB := ⟨_, rfl⟩
  obtain ⟨LC, hLC⟩ : ∃ LC, lcV vs rs us = LC := ⟨_, rfl⟩
  have HN1 := Lib.hid (fun h => links_one (vs := vs) (rs := rs) (us := us) h)
  rw [hKB, hCS, hUQ] at HN1
  have HCS := Lib.hid hCS
  have HUQ := Lib.hid hUQ
  have HKB := Lib.hid hKB
  have HLC := Lib.hid hLC
  clear hCS hUQ hKB hLC
  go_wp2_with fail
  have K2 := implClassSizes_law A1 Bq U q1 d1 m d l kc vs rs us w1 hx hy hu
  rw [HCS.out, HKB.out] at K2
  refine K2.mono ?_
  clear K2
  rintro e w2 ⟨Ai, ci, rfl, oi, b2⟩
  have B2 := B1.trans (b2.mono B1.size)
  replace hx := hx.below b2
  replace hy := hy.below b2
  replace hu := hu.below b2
  have S2 := b2.size
  clear b2 B1
  go_wp2_with fail
  have K3 := specClassSizes_law A1 Bq U q1 d1 m d l kc vs rs us w2 hx hy hu
  rw [HCS.out, HKB.out] at K3
  refine K3.mono ?_
  clear K3
  rintro e w3 ⟨As, cs, rfl, os, b3⟩
  have B3 := B2.trans (b3.mono B2.size)
  replace hx := hx.below b3
  replace hy := hy.below b3
  replace hu := hu.below b3
  replace oi := oi.below b3
  have S3 := b3.size
  clear b3 B2
  have k1 : (KB != KB) = false := by simp
  go_wp2_with fail
  have K4 := sameInts_any Ai As _ ci cs CS w3 oi.ints os.ints oi.small
  refine K4.mono ?_
  clear K4
  rintro e w4 ⟨rfl, b4⟩
  have B4 := B3.trans (b4.mono B3.size)
  replace hx := hx.below b4
  replace hy := hy.below b4
  replace hu := hu.below b4
  replace oi := oi.below b4
  replace os := os.below b4
  have S4 := b4.size
  clear b4 B3
  clear oi
  clear k1
  cases hKB2 : KB
  · clear hx hy hu os
    go_wp2_with fail
    have K5 := drawCertainLinks_any a1 n1 c1 w4 (hb1.out.below B4) (by omega)
    refine K5.mono ?_
    clear K5
    rintro e w5 ⟨A2, q2, d2, vs2, C1, mm, dd, C2, mq, dq, U2, l2, k2, us2, rfl, hq2, od, hmm, oc, hmq, oe, hl2, ou, b5⟩
    have B5 := B4.trans (b5.mono B4.size)
    have S5 := b5.size
    clear b5 B4
    have hx2 := od.readS hq2
    obtain ⟨rs2, hy2⟩ := oc.recs (by omega)
    obtain ⟨qs2, hz2⟩ := oe.recs (by omega)
    have hu2 := ou.intR
    have hql := hz2.len
    clear od oc oe ou
    have HL2 := Lib.hid (fun (j : Nat) => clR_rowL vs2 rs2 qs2 us2 j)
    have HT2 := Lib.hid (fun (j : Nat) hj => links_two (vs := vs2) (rs := rs2) (qs := qs2) (us := us2) (j := j) hj)
    have HS2 := Lib.hid (fun (j : Nat) => setL_le (vs := vs2) (us := us2) (rs := rs2) hql (by omega) j)
    obtain ⟨CL, hCL⟩ : ∃ CL, clR vs2 rs2 qs2 us2 = CL := ⟨_, rfl⟩
    obtain ⟨SS, hSS⟩ : ∃ SS, setL vs2 us2 rs2 qs2 = SS := ⟨_, rfl⟩
    obtain ⟨SN, hSN⟩ : ∃ SN, lsN vs2 rs2 qs2 us2 = SN := ⟨_, rfl⟩
    obtain ⟨LB, hLB⟩ : ∃ LB, linkedB vs2 rs2 qs2 us2 = LB := ⟨_, rfl⟩
    rw [hCL] at HL2
    rw [hCL, hSN, hSS] at HT2
    rw [hSS] at HS2
    have HCL := Lib.hid hCL
    have HSS := Lib.hid hSS
    have HSN := Lib.hid hSN
    have HLB := Lib.hid hLB
    clear hCL hSS hSN hLB hql
    go_wp2_with fail
    have K6 := implCertainLinks_law A2 C1 C2 U2 q2 d2 mm dd mq dq l2 k2 vs2 rs2 qs2 us2 w5 hx2 hy2 hz2 hu2
    rw [HCL.out, HLB.out] at K6
    refine K6.mono ?_
    clear K6
    rintro e w6 ⟨E1, e1, rfl, p1, b6⟩
    have B6 := B5.trans (b6.mono B5.size)
    replace hx2 := hx2.below b6
    replace hy2 := hy2.below b6
    replace hz2 := hz2.below b6
    replace hu2 := hu2.below b6
    have S6 := b6.size
    clear b6 B5
    go_wp2_with fail
    have K7 := specCertainLinks_law A2 C1 C2 U2 q2 d2 mm dd mq dq l2 k2 vs2 rs2 qs2 us2 w6 hx2 hy2 hz2 hu2
    rw [HCL.out, HLB.out] at K7
    refine K7.mono ?_
    clear K7
    rintro e w7 ⟨E2, e2, rfl, p2, b7⟩
    have B7 := B6.trans (b7.mono B6.size)
    replace hx2 := hx2.below b7
    replace hy2 := hy2.below b7
    replace hz2 := hz2.below b7
    replace hu2 := hu2.below b7
    replace p1 := p1.below b7
    have S7 := b7.size
    clear b7 B6
    go_wp2_with fail
    have K8 := implLinkSets_law A2 C1 C2 U2 q2 d2 mm dd mq dq l2 k2 vs2 rs2 qs2 us2 w7 hx2 hy2 hz2 hu2
    rw [HSN.out, HSS.out, HLB.out] at K8
    refine K8.mono ?_
    clear K8
    rintro e w8 ⟨E3, e3, rfl, p3, b8⟩
    have B8 := B7.trans (b8.mono B7.size)
    replace hx2 := hx2.below b8
    replace hy2 := hy2.below b8
    replace hz2 := hz2.below b8
    replace hu2 := hu2.below b8
    replace p1 := p1.below b8
    replace p2 := p2.below b8
    have S8 := b8.size
    clear b8 B7
    go_wp2_with fail
    have K9 := specLinkSets_law A2 C1 C2 U2 q2 d2 mm dd mq dq l2 k2 vs2 rs2 qs2 us2 w8 hx2 hy2 hz2 hu2
    rw [HSN.out, HSS.out, HLB.out] at K9
    refine K9.mono ?_
    clear K9
    rintro e w9 ⟨E4, e4, rfl, p4, b9⟩
    have B9 := B8.trans (b9.mono B8.size)
    replace hx2 := hx2.below b9
    replace hy2 := hy2.below b9
    replace hz2 := hz2.below b9
    replace hu2 := hu2.below b9
    replace p1 := p1.below b9
    replace p2 := p2.below b9
    replace p3 := p3.below b9
    have S9 := b9.size
    clear b9 B8
    clear hx2 hy2 hz2 hu2
    have k1 : (LB != LB) = false := by simp
    go_wp2_with fail
    have K10 := sameLists_any E1 E2 _ e1 e2 (fun t => CL[t]?.getD []) w9 p1.read p2.read p1.small (fun j _ => HL2.out j)
    refine K10.mono ?_
    clear K10
    rintro e w10 ⟨rfl, b10⟩
    have B10 := B9.trans (b10.mono B9.size)
    replace p1 := p1.below b10
    replace p2 := p2.below b10
    replace p3 := p3.below b10
    replace p4 := p4.below b10
    have S10 := b10.size
    clear b10 B9
    go_wp2_with fail
    have K11 := sameLists_any E3 E4 SN e3 e4 SS w10 p3.read p4.read p3.small (fun j _ => by have := HS2.out j; omega)
    refine K11.mono ?_
    clear K11
    rintro e w11 ⟨rfl, b11⟩
    have B11 := B10.trans (b11.mono B10.size)
    replace p1 := p1.below b11
    replace p2 := p2.below b11
    replace p3 := p3.below b11
    replace p4 := p4.below b11
    have S11 := b11.size
    clear b11 B10
    have HP2 := Lib.hid p2.read
    have HP4 := Lib.hid p4.read
    have hsm := p2.small
    have HB := Lib.hid B11
    clear p1 p2 p3 p4 k1 B11
    go_wp2_with fail
    go_loopw [193] (fun i wr => ∃ j : Nat, j ≤ CL.length ∧ i = .int .i64 j ∧ Below w11.heap.size w11 wr) (fun i _ => CL.length - (intOf i).toNat)
    case atStart => exact ⟨0, Nat.zero_le _, rfl, Below.refl _ _⟩
    case round =>
      obtain ⟨j, hj, rfl, hbw⟩ := hrel
      by_cases hlt : j < CL.length
      · obtain ⟨t, v, ht, e1', e2'⟩ := HT2.out j hlt
        obtain ⟨adl, rfl, Vl, cl, ql, hVl⟩ := (HP2.out.below hbw).at_ hlt
        obtain ⟨ada, rfl, Va, ca, qa, hVa⟩ := (HP4.out.below hbw).at_ ht
        rw [e2'] at qa hVa
        simp only [e1'] at ql hVl
        obtain ⟨adr, rfl, p0⟩ := hVl.at_ (show 0 < [(t : Int), v].length by simp)
        obtain ⟨adr', e6, p1⟩ := hVl.at_ (show 1 < [(t : Int), v].length by simp)
        simp only [Option.some.injEq] at e6
        subst e6
        obtain ⟨ads, rfl, s0⟩ := hVa.at_ (show 0 < [v].length by simp)
        replace ql : wr.cell? (adl.add j) = some (.slice (some adr) 2 cl) := ql
        replace qa : wr.cell? (ada.add t) = some (.slice (some ads) 1 ca) := qa
        have p00 : wr.cell? adr = some (.int .i64 t) := by have := p0; simpa [Addr.add] using this
        have p11 : wr.cell? { block := adr.block, off := adr.off + 1, spot := none } = some (.int .i64 v) := by have := p1; simpa [Addr.add] using this
        have s00 : wr.cell? ads = some (.int .i64 v) := by have := s0; simpa [Addr.add] using this
        have ht' : (t : Int) < (SN : Int) := by omega
        have ht0 : (0 : Int) ≤ (t : Int) := by omega
        have hvv : (v != v) = false := by simp
        clear hVl hVa p0 p1 s0 e1' e2'
        go_wp2_with fail
        go_quiet (fail)
        go_wp2
        go_roundw
        case rel => exact ⟨j + 1, by omega, by go_num, below_drewN hbw _⟩
        case measure => simp [intOf]; omega
      · obtain rfl : j = CL.length := by omega
        clear HT2 HL2 HP2 HP4
        go_wp2
        go_ret
        exact ⟨rfl, HB.out.trans (hbw.mono HB.out.size)⟩
  · obtain ⟨N, hN0, hN1, hN2, hN3⟩ := HN1.out hKB2
    have HNN0 := Lib.hid hN0
    have HNN1 := Lib.hid hN1
    have HNN2 := Lib.hid hN2
    have HNN3 := Lib.hid hN3
    have HK2 := Lib.hid (HKB.out.trans hKB2)
    clear hN0 hN1 hN2 hN3 hKB2 HN1
    go_wp2_with fail
    have K5 := implUniqueRecords_law A1 Bq U q1 d1 m d l kc vs rs us w4 hx hy hu
    rw [HUQ.out, HK2.out] at K5
    refine K5.mono ?_
    clear K5
    rintro e w5 ⟨Au, cu, rfl, ou, b5⟩
    have B5 := B4.trans (b5.mono B4.size)
    replace hx := hx.below b5
    replace hy := hy.below b5
    replace hu := hu.below b5
    replace os := os.below b5
    have S5 := b5.size
    clear b5 B4
    have HU := Lib.hid ou.ints
    have HS := Lib.hid os.ints
    have hus := ou.small
    have hos := os.small
    have HB1 := Lib.hid B5
    clear ou os B5
    have HX := Lib.hid hx
    have HY := Lib.hid hy
    have HW := Lib.hid hu
    clear hx hy hu
    go_wp2_with fail
    go_loopw [14, 77] (fun q i wr => ∃ j : Nat, j ≤ CS.length ∧ i = .int .i64 j ∧ q = .int .i64 (N j) ∧ w5 = wr) (fun _ i _ => CS.length - (intOf i).toNat)
    case atStart => exact ⟨0, Nat.zero_le _, rfl, by rw [HNN0.out]; rfl, rfl⟩
    case round =>
      obtain ⟨j, hj, rfl, rfl, rfl⟩ := hrel
      by_cases hlt : j < CS.length
      · obtain ⟨y1, y2, y3⟩ := HNN3.out j hlt
        obtain ⟨adw, rfl, cw⟩ := HS.out.at_ hlt
        have y4 := HNN2.out j
        obtain ⟨x, hx⟩ : ∃ x, CS[j]?.getD 0 = x := ⟨_, rfl⟩
        rw [hx] at y1 y2 y3 cw
        clear hx
        have hx1 : ¬ x < 1 := by omega
        by_cases hx2 : x = 1
        · obtain ⟨y5, y6, y7⟩ := y2 hx2
          subst hx2
          obtain ⟨adu, rfl, cu2⟩ := HU.out.at_ y6
          rw [y7] at cu2
          have HY5 := Lib.hid y5
          obtain ⟨nj, hnj⟩ : ∃ nj, N j = nj := ⟨_, rfl⟩
          rw [hnj] at y4 y6 cu2 HY5 ⊢
          have HNJ := Lib.hid hnj
          clear hnj
          have d1 : decide ((UQ.length : Int) ≤ (nj : Int)) = false := decide_eq_false (by omega)
          have d2 : ((j : Int) != (j : Int)) = false := by simp
          have d3 : (nj : Int) < (UQ.length : Int) := by omega
          have d4 : (0 : Int) ≤ (nj : Int) := by omega
          clear y1 y2 y3 y5 y7
          go_wp2
          go_roundw
          case rel => exact ⟨j + 1, by omega, by go_num, by rw [HY5.out]; go_num, trivial⟩
          case measure => simp [intOf]; omega
        · have HY3 := Lib.hid (y3 hx2)
          have d1 : (x == 1) = false := by simpa using hx2
          clear y1 y2 y3 hx2
          go_wp2
          go_roundw
          case rel => exact ⟨j + 1, by omega, by go_num, by rw [HY3.out], trivial⟩
          case measure => simp [intOf]; omega
      · obtain rfl : j = CS.length := by omega
        obtain ⟨nj, hnj⟩ : ∃ nj, N CS.length = nj := ⟨_, rfl⟩
        rw [hnj] at HNN1 ⊢
        obtain rfl : nj = UQ.length := HNN1.out
        clear hnj HNN3 HNN2 HNN0 HNN1 HU HS hlt hj
        have hx := HX.out
        have hy := HY.out
        have hu := HW.out
        have B99 := HB1.out
        clear HX HY HW HB1
        go_wp2_with fail
        have K6 := implLeastClass_law A1 Bq U q1 d1 m d l kc vs rs us w5 hx hy hu
        rw [HLC.out, HK2.out] at K6
        refine K6.mono ?_
        clear K6
        rintro e w6 ⟨rfl, b6⟩
        have B6 := B99.trans (b6.mono B99.size)
        replace hx := hx.below b6
        replace hy := hy.below b6
        replace hu := hu.below b6
        have S6 := b6.size
        clear b6 B99
        go_wp2_with fail
        have K7 := specLeastClass_law A1 Bq U q1 d1 m d l kc vs rs us w6 hx hy hu
        rw [HLC.out, HK2.out] at K7
        refine K7.mono ?_
        clear K7
        rintro e w7 ⟨rfl, b7⟩
        have B7 := B6.trans (b7.mono B6.size)
        replace hx := hx.below b7
        replace hy := hy.below b7
        replace hu := hu.below b7
        have S7 := b7.size
        clear b7 B6
        clear hx hy hu
        have k3 : ((UQ.length : Int) != (UQ.length : Int)) = false := by simp
        have k4 : (LC != LC) = false := by simp
        go_wp2_with fail
        clear k3 k4
        have K8 := drawCertainLinks_any a1 n1 c1 w7 (hb1.out.below B7) (by omega)
        refine K8.mono ?_
        clear K8
        rintro e w8 ⟨A2, q2, d2, vs2, C1, mm, dd, C2, mq, dq, U2, l2, k2, us2, rfl, hq2, od, hmm, oc, hmq, oe, hl2, ou, b8⟩
        have B8 := B7.trans (b8.mono B7.size)
        have S8 := b8.size
        clear b8 B7
        have hx2 := od.readS hq2
        obtain ⟨rs2, hy2⟩ := oc.recs (by omega)
        obtain ⟨qs2, hz2⟩ := oe.recs (by omega)
        have hu2 := ou.intR
        have hql := hz2.len
        clear od oc oe ou
        have HL2 := Lib.hid (fun (j : Nat) => clR_rowL vs2 rs2 qs2 us2 j)
        have HT2 := Lib.hid (fun (j : Nat) hj => links_two (vs := vs2) (rs := rs2) (qs := qs2) (us := us2) (j := j) hj)
        have HS2 := Lib.hid (fun (j : Nat) => setL_le (vs := vs2) (us := us2) (rs := rs2) hql (by omega) j)
        obtain ⟨CL, hCL⟩ : ∃ CL, clR vs2 rs2 qs2 us2 = CL := ⟨_, rfl⟩
        obtain ⟨SS, hSS⟩ : ∃ SS, setL vs2 us2 rs2 qs2 = SS := ⟨_, rfl⟩
        obtain ⟨SN, hSN⟩ : ∃ SN, lsN vs2 rs2 qs2 us2 = SN := ⟨_, rfl⟩
        obtain ⟨LB, hLB⟩ : ∃ LB, linkedB vs2 rs2 qs2 us2 = LB := ⟨_, rfl⟩
        rw [hCL] at HL2
        rw [hCL, hSN, hSS] at HT2
        rw [hSS] at HS2
        have HCL := Lib.hid hCL
        have HSS := Lib.hid hSS
        have HSN := Lib.hid hSN
        have HLB := Lib.hid hLB
        clear hCL hSS hSN hLB hql
        go_wp2_with fail
        have K9 := implCertainLinks_law A2 C1 C2 U2 q2 d2 mm dd mq dq l2 k2 vs2 rs2 qs2 us2 w8 hx2 hy2 hz2 hu2
        rw [HCL.out, HLB.out] at K9
        refine K9.mono ?_
        clear K9
        rintro e w9 ⟨E1, e1, rfl, p1, b9⟩
        have B9 := B8.trans (b9.mono B8.size)
        replace hx2 := hx2.below b9
        replace hy2 := hy2.below b9
        replace hz2 := hz2.below b9
        replace hu2 := hu2.below b9
        have S9 := b9.size
        clear b9 B8
        go_wp2_with fail
        have K10 := specCertainLinks_law A2 C1 C2 U2 q2 d2 mm dd mq dq l2 k2 vs2 rs2 qs2 us2 w9 hx2 hy2 hz2 hu2
        rw [HCL.out, HLB.out] at K10
        refine K10.mono ?_
        clear K10
        rintro e w10 ⟨E2, e2, rfl, p2, b10⟩
        have B10 := B9.trans (b10.mono B9.size)
        replace hx2 := hx2.below b10
        replace hy2 := hy2.below b10
        replace hz2 := hz2.below b10
        replace hu2 := hu2.below b10
        replace p1 := p1.below b10
        have S10 := b10.size
        clear b10 B9
        go_wp2_with fail
        have K11 := implLinkSets_law A2 C1 C2 U2 q2 d2 mm dd mq dq l2 k2 vs2 rs2 qs2 us2 w10 hx2 hy2 hz2 hu2
        rw [HSN.out, HSS.out, HLB.out] at K11
        refine K11.mono ?_
        clear K11
        rintro e w11 ⟨E3, e3, rfl, p3, b11⟩
        have B11 := B10.trans (b11.mono B10.size)
        replace hx2 := hx2.below b11
        replace hy2 := hy2.below b11
        replace hz2 := hz2.below b11
        replace hu2 := hu2.below b11
        replace p1 := p1.below b11
        replace p2 := p2.below b11
        have S11 := b11.size
        clear b11 B10
        go_wp2_with fail
        have K12 := specLinkSets_law A2 C1 C2 U2 q2 d2 mm dd mq dq l2 k2 vs2 rs2 qs2 us2 w11 hx2 hy2 hz2 hu2
        rw [HSN.out, HSS.out, HLB.out] at K12
        refine K12.mono ?_
        clear K12
        rintro e w12 ⟨E4, e4, rfl, p4, b12⟩
        have B12 := B11.trans (b12.mono B11.size)
        replace hx2 := hx2.below b12
        replace hy2 := hy2.below b12
        replace hz2 := hz2.below b12
        replace hu2 := hu2.below b12
        replace p1 := p1.below b12
        replace p2 := p2.below b12
        replace p3 := p3.below b12
        have S12 := b12.size
        clear b12 B11
        clear hx2 hy2 hz2 hu2
        have k1 : (LB != LB) = false := by simp
        go_wp2_with fail
        have K13 := sameLists_any E1 E2 _ e1 e2 (fun t => CL[t]?.getD []) w12 p1.read p2.read p1.small (fun j _ => HL2.out j)
        refine K13.mono ?_
        clear K13
        rintro e w13 ⟨rfl, b13⟩
        have B13 := B12.trans (b13.mono B12.size)
        replace p1 := p1.below b13
        replace p2 := p2.below b13
        replace p3 := p3.below b13
        replace p4 := p4.below b13
        have S13 := b13.size
        clear b13 B12
        go_wp2_with fail
        have K14 := sameLists_any E3 E4 SN e3 e4 SS w13 p3.read p4.read p3.small (fun j _ => by have := HS2.out j; omega)
        refine K14.mono ?_
        clear K14
        rintro e w14 ⟨rfl, b14⟩
        have B14 := B13.trans (b14.mono B13.size)
        replace p1 := p1.below b14
        replace p2 := p2.below b14
        replace p3 := p3.below b14
        replace p4 := p4.below b14
        have S14 := b14.size
        clear b14 B13
        have HP2 := Lib.hid p2.read
        have HP4 := Lib.hid p4.read
        have hsm := p2.small
        have HB := Lib.hid B14
        clear p1 p2 p3 p4 k1 B14
        go_wp2_with fail
        go_loopw [193] (fun i wr => ∃ j : Nat, j ≤ CL.length ∧ i = .int .i64 j ∧ Below w14.heap.size w14 wr) (fun i _ => CL.length - (intOf i).toNat)
        case atStart => exact ⟨0, Nat.zero_le _, rfl, Below.refl _ _⟩
        case round =>
          obtain ⟨j, hj, rfl, hbw⟩ := hrel
          by_cases hlt : j < CL.length
          · obtain ⟨t, v, ht, e1', e2'⟩ := HT2.out j hlt
            obtain ⟨adl, rfl, Vl, cl, ql, hVl⟩ := (HP2.out.below hbw).at_ hlt
            obtain ⟨ada, rfl, Va, ca, qa, hVa⟩ := (HP4.out.below hbw).at_ ht
            rw [e2'] at qa hVa
            simp only [e1'] at ql hVl
            obtain ⟨adr, rfl, p0⟩ := hVl.at_ (show 0 < [(t : Int), v].length by simp)
            obtain ⟨adr', e6, p1⟩ := hVl.at_ (show 1 < [(t : Int), v].length by simp)
            simp only [Option.some.injEq] at e6
            subst e6
            obtain ⟨ads, rfl, s0⟩ := hVa.at_ (show 0 < [v].length by simp)
            replace ql : wr.cell? (adl.add j) = some (.slice (some adr) 2 cl) := ql
            replace qa : wr.cell? (ada.add t) = some (.slice (some ads) 1 ca) := qa
            have p00 : wr.cell? adr = some (.int .i64 t) := by have := p0; simpa [Addr.add] using this
            have p11 : wr.cell? { block := adr.block, off := adr.off + 1, spot := none } = some (.int .i64 v) := by have := p1; simpa [Addr.add] using this
            have s00 : wr.cell? ads = some (.int .i64 v) := by have := s0; simpa [Addr.add] using this
            have ht' : (t : Int) < (SN : Int) := by omega
            have ht0 : (0 : Int) ≤ (t : Int) := by omega
            have hvv : (v != v) = false := by simp
            clear hVl hVa p0 p1 s0 e1' e2'
            go_wp2_with fail
            go_quiet (fail)
            go_wp2
            go_roundw
            case rel => exact ⟨j + 1, by omega, by go_num, below_drewN hbw _⟩
            case measure => simp [intOf]; omega
          · obtain rfl : j = CL.length := by omega
            clear HT2 HL2 HP2 HP4
            go_wp2
            go_ret
            exact ⟨rfl, HB.out.trans (hbw.mono HB.out.size)⟩
end Go.Proofs.Ytgeilnkglbcmeaa
