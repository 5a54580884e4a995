/- The walk of the law FnSeededRoundings. -/
import Derived.Test.YtcjmapdeopffcaaSdK
import Derived.Test.YtcjmapdeopffcaaZs
import Derived.Deep.RegionHeld3
import Derived.Deep.RegionWith
namespace Go.Proofs.Ytcjmapdeopffcaa
open Go.RowKit Flo
set_option linter.unusedVariables false

theorem wpAnyH_takeD {P : Program} {ops : Array Oper} {Q : Exit → Act → World → Prop} {md : Region.Mode} {S : World → Prop} {i d : Nat} {oi : Oper} {v : Value} {fuel : Nat} {listed : Array Bool} {a : Act} {w : World} (hi : ops[i]? = some oi) (hd : oi.dst = some d)
    (hs : Region.noSelect ops = true) (hf : Region.free md ops listed i = true) (hr : (Region.ready md ops listed).contains i = true)
    (hQ : ∀ c a w, Q (.panic c) (a.put (some d) v) w → Q (.panic c) a w) (hy : YieldsIf P ops S oi v a) (hS : S w)
    (h : wpAnyH P md ops Q S fuel (listed.setIfInBounds i true) (a.put (some d) v) w) : wpAnyH P md ops Q S (fuel + 1) listed a w :=
  wpAnyH_take hi hs hf hr (by rw [hd]; exact hQ) hy hS (by rw [hd]; exact h)
set_option maxRecDepth 100000 in
set_option maxHeartbeats 16000000 in
theorem walk_FnSeededRoundings (a0 : Option Addr) (n0 c0 : Nat) (z0 : List Int) (a1 : Option Addr) (n1 c1 : Nat) (z1 : List Int) (w : World) (r0 : Bytes w a0 n0 z0) (m0 : n0 ≤ maxLen) (f0 : ∀ x ∈ z0, (Lit.int .u8 x).wf = true) (r1 : Bytes w a1 n1 z1) (m1 : n1 ≤ maxLen) (f1 : ∀ x ∈ z1, (Lit.int .u8 x).wf = true) :
    Calls Try.prog 4 #[.slice a0 n0 c0, .slice a1 n1 c1] w fun e w' => e = .returned (.bool true) ∧ Below w.heap.size w w' := by
  have hb0 := Lib.hid (byt_of r0 f0)
  have hb1 := Lib.hid (byt_of r1 f1)
  have mL := m0
  unfold maxLen at m0 m1
  clear r0 f0 r1 f1
  go_enter Try.func4, Try.ntmps4
  go_wp2_with fail
  refine (big_any a0 a1 n0 c0 n1 c1 w mL).mono ?_
  clear mL
  rintro e w' ⟨rfl, rfl⟩
  cases hbig : bigB n0 n1
  case true =>
    go_wp2
    go_ret
    exact ⟨rfl, Below.refl _ _⟩
  case false =>
    clear hbig
    go_wp2_with fail
    refine (drawSR_any a0 n0 c0 w hb0.out (by omega)).mono ?_
    rintro e w1 ⟨A, n, c, L, b, sd, rfl, HS, hX, b1⟩
    have B1 := Lib.hid b1
    have HX1 := Lib.hid hX
    clear hb0 hX b1
    have hS1 := HS.1
    obtain ⟨N, M, K, rs, cs, t, ok, hN, hM, hK, hok, hspec, himpl⟩ := sr_law n L b sd (by omega) (fun j hj => by have := HS.2 j hj; omega)
    have HK := Lib.hid hK
    have HOK := Lib.hid hok
    have HSP := Lib.hid hspec
    have HLL : Hid (∀ j, j < n → (L j).length ≤ 1099511627776) := Lib.hid fun j hj => by have := HS.2 j hj; omega
    clear hK hok hspec HS
    go_wp2_with fail
    refine (himpl A c w1 HX1.out).mono ?_
    rintro e w2 ⟨X, R, C, xc, rc, cc, rfl, hY, b2⟩
    clear himpl
    have B2 := Lib.hid (B1.out.trans (b2.mono B1.out.size))
    have HX2 := Lib.hid (HX1.out.below b2)
    have HY2 := Lib.hid hY.read
    have xb := box_new w2 #[.slice X N xc, .slice R N rc, .slice C M cc, .int .i64 t] 26
    have bb := below_new w2 (.cells #[.slice X N xc, .slice R N rc, .slice C M cc, .int .i64 t] 26)
    have B3 := Lib.hid (B2.out.trans (bb.mono B2.out.size))
    have HX3 := Lib.hid (HX2.out.below bb)
    have HY3 := Lib.hid (HY2.out.below bb)
    have XB3 := Lib.hid xb
    clear hY b2 HX1 HX2 HY2 B1 xb bb
    obtain ⟨T8, hT8⟩ : ∃ T8, w2.heap.size = T8 := ⟨_, rfl⟩
    rw [hT8] at XB3
    go_wp2_with fail
    generalize w2.alloc (.cells #[.slice X N xc, .slice R N rc, .slice C M cc, .int .i64 t] 26) = w3 at *
    refine (HSP.out A c w3 HX3.out).mono ?_
    rintro e w4 ⟨X', R', C', xc', rc', cc', rfl, hZ, b4⟩
    have B4 := Lib.hid (B3.out.trans (b4.mono B3.out.size))
    have HX4 := Lib.hid (HX3.out.below b4)
    have HY4 := Lib.hid (HY3.out.below b4)
    have HZ4 := Lib.hid hZ.read
    have XB4 := Lib.hid (box_below XB3.out b4)
    have xb := box_new w4 #[.slice X' N xc', .slice R' N rc', .slice C' M cc', .int .i64 t] 26
    have bb := below_new w4 (.cells #[.slice X' N xc', .slice R' N rc', .slice C' M cc', .int .i64 t] 26)
    have B5 := Lib.hid (B4.out.trans (bb.mono B4.out.size))
    have HX5 := Lib.hid (HX4.out.below bb)
    have HY5 := Lib.hid (HY4.out.below bb)
    have HZ5 := Lib.hid (HZ4.out.below bb)
    have XB5 := Lib.hid (box_below XB4.out bb)
    have ZB5 := Lib.hid xb
    clear hZ b4 HX3 HY3 HX4 HY4 HZ4 B3 B4 xb bb XB3 XB4 HSP hT8
    obtain ⟨T10, hT10⟩ : ∃ T10, w4.heap.size = T10 := ⟨_, rfl⟩
    rw [hT10] at ZB5
    have x0 : (w4.alloc (.cells #[.slice X' N xc', .slice R' N rc', .slice C' M cc', .int .i64 t] 26)).cell? ⟨T8, 0, none⟩ = some (.slice X N xc) := box_cell XB5.out 0 _ rfl
    have x1 : (w4.alloc (.cells #[.slice X' N xc', .slice R' N rc', .slice C' M cc', .int .i64 t] 26)).cell? ⟨T8, 1, none⟩ = some (.slice R N rc) := box_cell XB5.out 1 _ rfl
    have x2 : (w4.alloc (.cells #[.slice X' N xc', .slice R' N rc', .slice C' M cc', .int .i64 t] 26)).cell? ⟨T8, 2, none⟩ = some (.slice C M cc) := box_cell XB5.out 2 _ rfl
    have x3 : (w4.alloc (.cells #[.slice X' N xc', .slice R' N rc', .slice C' M cc', .int .i64 t] 26)).cell? ⟨T8, 3, none⟩ = some (.int .i64 t) := box_cell XB5.out 3 _ rfl
    have y0 : (w4.alloc (.cells #[.slice X' N xc', .slice R' N rc', .slice C' M cc', .int .i64 t] 26)).cell? ⟨T10, 0, none⟩ = some (.slice X' N xc') := box_cell ZB5.out 0 _ rfl
    have y1 : (w4.alloc (.cells #[.slice X' N xc', .slice R' N rc', .slice C' M cc', .int .i64 t] 26)).cell? ⟨T10, 1, none⟩ = some (.slice R' N rc') := box_cell ZB5.out 1 _ rfl
    have y2 : (w4.alloc (.cells #[.slice X' N xc', .slice R' N rc', .slice C' M cc', .int .i64 t] 26)).cell? ⟨T10, 2, none⟩ = some (.slice C' M cc') := box_cell ZB5.out 2 _ rfl
    have y3 : (w4.alloc (.cells #[.slice X' N xc', .slice R' N rc', .slice C' M cc', .int .i64 t] 26)).cell? ⟨T10, 3, none⟩ = some (.int .i64 t) := box_cell ZB5.out 3 _ rfl
    have kk : (ok != ok) = false := by simp
    go_wp2_with fail
    clear x0 x1 x2 x3 y0 y1 y2 y3
    generalize w4.alloc (.cells #[.slice X' N xc', .slice R' N rc', .slice C' M cc', .int .i64 t] 26) = w5 at *
    refine (pSameRounding_any X R C X' R' C' N N M xc rc cc xc' rc' cc' K rs cs t w5 HY5.out HZ5.out (by omega) (by omega) (by omega) (fun j hj => by have := HK.out j hj; omega)).mono ?_
    rintro e w6 ⟨rfl, b6⟩
    have B6 := Lib.hid (B5.out.trans (b6.mono B5.out.size))
    have HX6 := Lib.hid (HX5.out.below b6)
    have HY6 := Lib.hid (HY5.out.below b6)
    have XB6 := Lib.hid (box_below XB5.out b6)
    clear B5 HX5 HY5 HZ5 XB5 ZB5 hT10 b6 kk
    cases ok
    case false =>
      go_wp2_with fail
      have BW := B6
      clear HX6 HY6 XB6 HOK HLL B6
      refine (drawIR_any a1 n1 c1 w6 (hb1.out.below BW.out) (by omega)).mono ?_
      rintro e v1 ⟨A2, X2, R2, C2, n2, c2, nx, xc2, nr, rc2, nc, cc2, L2, M2, rs2, cs2, b2, t2, rfl, HS2, hX2, HSM, hY2, hnr, hnc, bv⟩
      have D1 := Lib.hid (BW.out.trans (bv.mono BW.out.size))
      have HX1 := Lib.hid hX2
      have HY1 := Lib.hid hY2
      have hS2 := HS2.1
      have hSM := HSM.1
      have HL2 : Hid (∀ j, j < n2 → (L2 j).length ≤ 1099511627776) := Lib.hid fun j hj => by have := HS2.2 j hj; omega
      have HM2 : Hid (∀ j, j < nx → (M2 j).length ≤ 1099511627776) := Lib.hid fun j hj => by have := HSM.2 j hj; omega
      have xb := box_new v1 #[.slice X2 nx xc2, .slice R2 nr rc2, .slice C2 nc cc2, .int .i64 t2] 26
      have bb := below_new v1 (.cells #[.slice X2 nx xc2, .slice R2 nr rc2, .slice C2 nc cc2, .int .i64 t2] 26)
      have D2 := Lib.hid (D1.out.trans (bb.mono D1.out.size))
      have HX2 := Lib.hid (HX1.out.below bb)
      have HY2 := Lib.hid (HY1.out.below bb)
      obtain ⟨T19, hT19⟩ : ∃ T19, v1.heap.size = T19 := ⟨_, rfl⟩
      rw [hT19] at xb
      have XB2 := Lib.hid xb
      clear bv hX2 hY2 HX1 HY1 D1 HS2 HSM xb bb BW
      have x0 : (v1.alloc (.cells #[.slice X2 nx xc2, .slice R2 nr rc2, .slice C2 nc cc2, .int .i64 t2] 26)).cell? ⟨T19, 0, none⟩ = some (.slice X2 nx xc2) := box_cell XB2.out 0 _ rfl
      have x1 : (v1.alloc (.cells #[.slice X2 nx xc2, .slice R2 nr rc2, .slice C2 nc cc2, .int .i64 t2] 26)).cell? ⟨T19, 1, none⟩ = some (.slice R2 nr rc2) := box_cell XB2.out 1 _ rfl
      have x2 : (v1.alloc (.cells #[.slice X2 nx xc2, .slice R2 nr rc2, .slice C2 nc cc2, .int .i64 t2] 26)).cell? ⟨T19, 2, none⟩ = some (.slice C2 nc cc2) := box_cell XB2.out 2 _ rfl
      have x3 : (v1.alloc (.cells #[.slice X2 nx xc2, .slice R2 nr rc2, .slice C2 nc cc2, .int .i64 t2] 26)).cell? ⟨T19, 3, none⟩ = some (.int .i64 t2) := box_cell XB2.out 3 _ rfl
      go_wp2_with fail
      clear x0 x1 x2 x3 hT19
      generalize v1.alloc (.cells #[.slice X2 nx xc2, .slice R2 nr rc2, .slice C2 nc cc2, .int .i64 t2] 26) = v2 at *
      obtain ⟨G, HG⟩ : ∃ G, Hid ((inR b2 2 100 && mxB n2 L2) = G) := ⟨_, Lib.hid rfl⟩
      refine (implIsRnd_any A2 X2 R2 C2 n2 c2 nx xc2 nr rc2 nc cc2 b2 t2 L2 M2 rs2 cs2 v2 HX2.out HY2.out (by omega) HL2.out (by omega) (by omega) (by omega)).mono ?_
      rintro e v3 ⟨⟨q, rfl, hq⟩, bv⟩
      rw [HG.out]
      have D3 := Lib.hid (D2.out.trans (bv.mono D2.out.size))
      have HX3 := Lib.hid (HX2.out.below bv)
      have HY3 := Lib.hid (HY2.out.below bv)
      have XB3 := Lib.hid (box_below XB2.out bv)
      have HQ := Lib.hid hq
      clear D2 HX2 HY2 XB2 bv hq
      have x0 : v3.cell? ⟨T19, 0, none⟩ = some (.slice X2 nx xc2) := box_cell XB3.out 0 _ rfl
      have x1 : v3.cell? ⟨T19, 1, none⟩ = some (.slice R2 nr rc2) := box_cell XB3.out 1 _ rfl
      have x2 : v3.cell? ⟨T19, 2, none⟩ = some (.slice C2 nc cc2) := box_cell XB3.out 2 _ rfl
      have x3 : v3.cell? ⟨T19, 3, none⟩ = some (.int .i64 t2) := box_cell XB3.out 3 _ rfl
      go_wp2_with fail
      clear x0 x1 x2 x3
      refine (specIsRnd_any A2 X2 R2 C2 n2 c2 nx xc2 nr rc2 nc cc2 b2 t2 L2 M2 rs2 cs2 v3 HX3.out HY3.out (by omega) HL2.out (by omega) (by omega) (by omega) HM2.out).mono ?_
      rintro e v4 ⟨⟨q2, rfl, hq2⟩, bv⟩
      rw [HG.out]
      obtain rfl : q = q2 := Bool.eq_iff_iff.2 (HQ.out.trans hq2.symm)
      have D4 := Lib.hid (D3.out.trans (bv.mono D3.out.size))
      have HX4 := Lib.hid (HX3.out.below bv)
      clear D3 HX3 HY3 XB3 bv hq2 HQ HG HM2
      have kk1 : (G != G) = false := by simp
      have kk2 : (q != q) = false := by simp
      obtain ⟨N3, M3, K3, rs3, cs3, t3, ok3, hN3, hM3, hK3, hok3, hms, hmi⟩ := mg_law n2 L2 (by omega) HL2.out
      have HK3 := Lib.hid hK3
      have HO3 := Lib.hid hok3
      have HMS := Lib.hid hms
      have HMI := Lib.hid hmi
      clear hK3 hok3 hms hmi HL2
      go_wp2_with fail
      clear kk1 kk2
      refine (HMI.out A2 c2 v4 HX4.out).mono ?_
      rintro e v5 ⟨X3, R3, C3, xc3, rc3, cc3, rfl, hZ, bv⟩
      have D5 := Lib.hid (D4.out.trans (bv.mono D4.out.size))
      have HX5 := Lib.hid (HX4.out.below bv)
      have HZ5 := Lib.hid hZ.read
      clear D4 HX4 hZ bv HMI
      have xb := box_new v5 #[.slice X3 N3 xc3, .slice R3 N3 rc3, .slice C3 M3 cc3, .int .i64 t3] 26
      have bb := below_new v5 (.cells #[.slice X3 N3 xc3, .slice R3 N3 rc3, .slice C3 M3 cc3, .int .i64 t3] 26)
      have D6 := Lib.hid (D5.out.trans (bb.mono D5.out.size))
      have HX6 := Lib.hid (HX5.out.below bb)
      have HZ6 := Lib.hid (HZ5.out.below bb)
      obtain ⟨T24, hT24⟩ : ∃ T24, v5.heap.size = T24 := ⟨_, rfl⟩
      rw [hT24] at xb
      have XB6 := Lib.hid xb
      clear D5 HX5 HZ5 xb bb
      go_wp2_with fail
      clear hT24
      generalize v5.alloc (.cells #[.slice X3 N3 xc3, .slice R3 N3 rc3, .slice C3 M3 cc3, .int .i64 t3] 26) = v6 at *
      refine (HMS.out A2 c2 v6 HX6.out).mono ?_
      rintro e v7 ⟨X4, R4, C4, xc4, rc4, cc4, rfl, hV, bv⟩
      have D7 := Lib.hid (D6.out.trans (bv.mono D6.out.size))
      have HZ7 := Lib.hid (HZ6.out.below bv)
      have HV7 := Lib.hid hV.read
      have XB7 := Lib.hid (box_below XB6.out bv)
      clear D6 HX6 HZ6 XB6 hV bv HMS
      have xb := box_new v7 #[.slice X4 N3 xc4, .slice R4 N3 rc4, .slice C4 M3 cc4, .int .i64 t3] 26
      have bb := below_new v7 (.cells #[.slice X4 N3 xc4, .slice R4 N3 rc4, .slice C4 M3 cc4, .int .i64 t3] 26)
      have D8 := Lib.hid (D7.out.trans (bb.mono D7.out.size))
      have HZ8 := Lib.hid (HZ7.out.below bb)
      have HV8 := Lib.hid (HV7.out.below bb)
      have XB8 := Lib.hid (box_below XB7.out bb)
      obtain ⟨T26, hT26⟩ : ∃ T26, v7.heap.size = T26 := ⟨_, rfl⟩
      rw [hT26] at xb
      have YB8 := Lib.hid xb
      clear D7 HZ7 HV7 XB7 xb bb
      have x0 : (v7.alloc (.cells #[.slice X4 N3 xc4, .slice R4 N3 rc4, .slice C4 M3 cc4, .int .i64 t3] 26)).cell? ⟨T24, 0, none⟩ = some (.slice X3 N3 xc3) := box_cell XB8.out 0 _ rfl
      have x1 : (v7.alloc (.cells #[.slice X4 N3 xc4, .slice R4 N3 rc4, .slice C4 M3 cc4, .int .i64 t3] 26)).cell? ⟨T24, 1, none⟩ = some (.slice R3 N3 rc3) := box_cell XB8.out 1 _ rfl
      have x2 : (v7.alloc (.cells #[.slice X4 N3 xc4, .slice R4 N3 rc4, .slice C4 M3 cc4, .int .i64 t3] 26)).cell? ⟨T24, 2, none⟩ = some (.slice C3 M3 cc3) := box_cell XB8.out 2 _ rfl
      have x3 : (v7.alloc (.cells #[.slice X4 N3 xc4, .slice R4 N3 rc4, .slice C4 M3 cc4, .int .i64 t3] 26)).cell? ⟨T24, 3, none⟩ = some (.int .i64 t3) := box_cell XB8.out 3 _ rfl
      have y0 : (v7.alloc (.cells #[.slice X4 N3 xc4, .slice R4 N3 rc4, .slice C4 M3 cc4, .int .i64 t3] 26)).cell? ⟨T26, 0, none⟩ = some (.slice X4 N3 xc4) := box_cell YB8.out 0 _ rfl
      have y1 : (v7.alloc (.cells #[.slice X4 N3 xc4, .slice R4 N3 rc4, .slice C4 M3 cc4, .int .i64 t3] 26)).cell? ⟨T26, 1, none⟩ = some (.slice R4 N3 rc4) := box_cell YB8.out 1 _ rfl
      have y2 : (v7.alloc (.cells #[.slice X4 N3 xc4, .slice R4 N3 rc4, .slice C4 M3 cc4, .int .i64 t3] 26)).cell? ⟨T26, 2, none⟩ = some (.slice C4 M3 cc4) := box_cell YB8.out 2 _ rfl
      have y3 : (v7.alloc (.cells #[.slice X4 N3 xc4, .slice R4 N3 rc4, .slice C4 M3 cc4, .int .i64 t3] 26)).cell? ⟨T26, 3, none⟩ = some (.int .i64 t3) := box_cell YB8.out 3 _ rfl
      cases ok3
      case false =>
        clear HO3
        go_wp2_with fail
        clear hT26
        generalize v7.alloc (.cells #[.slice X4 N3 xc4, .slice R4 N3 rc4, .slice C4 M3 cc4, .int .i64 t3] 26) = v8 at *
        have E0 : (v8.cell? ⟨T24, 0, none⟩ = some (.slice X3 N3 xc3) ∧ v8.cell? ⟨T24, 1, none⟩ = some (.slice R3 N3 rc3) ∧ v8.cell? ⟨T24, 2, none⟩ = some (.slice C3 M3 cc3) ∧ v8.cell? ⟨T24, 3, none⟩ = some (.int .i64 t3) ∧ v8.cell? ⟨T26, 0, none⟩ = some (.slice X4 N3 xc4) ∧ v8.cell? ⟨T26, 1, none⟩ = some (.slice R4 N3 rc4) ∧ v8.cell? ⟨T26, 2, none⟩ = some (.slice C4 M3 cc4) ∧ v8.cell? ⟨T26, 3, none⟩ = some (.int .i64 t3)) := ⟨x0, x1, x2, x3, y0, y1, y2, y3⟩
        have HQ8 : Hid (∀ v9, Below v8.heap.size v8 v9 → (v9.cell? ⟨T24, 0, none⟩ = some (.slice X3 N3 xc3) ∧ v9.cell? ⟨T24, 1, none⟩ = some (.slice R3 N3 rc3) ∧ v9.cell? ⟨T24, 2, none⟩ = some (.slice C3 M3 cc3) ∧ v9.cell? ⟨T24, 3, none⟩ = some (.int .i64 t3) ∧ v9.cell? ⟨T26, 0, none⟩ = some (.slice X4 N3 xc4) ∧ v9.cell? ⟨T26, 1, none⟩ = some (.slice R4 N3 rc4) ∧ v9.cell? ⟨T26, 2, none⟩ = some (.slice C4 M3 cc4) ∧ v9.cell? ⟨T26, 3, none⟩ = some (.int .i64 t3))) := Lib.hid (fun v9 bv => by
          have hx := box_below XB8.out bv
          have hy := box_below YB8.out bv
          exact ⟨box_cell hx 0 _ rfl, box_cell hx 1 _ rfl, box_cell hx 2 _ rfl, box_cell hx 3 _ rfl, box_cell hy 0 _ rfl, box_cell hy 1 _ rfl, box_cell hy 2 _ rfl, box_cell hy 3 _ rfl⟩)
        clear XB8 YB8
        refine wp_region_held_drew (S := fun w' => (w'.cell? ⟨T24, 0, none⟩ = some (.slice X3 N3 xc3) ∧ w'.cell? ⟨T24, 1, none⟩ = some (.slice R3 N3 rc3) ∧ w'.cell? ⟨T24, 2, none⟩ = some (.slice C3 M3 cc3) ∧ w'.cell? ⟨T24, 3, none⟩ = some (.int .i64 t3) ∧ w'.cell? ⟨T26, 0, none⟩ = some (.slice X4 N3 xc4) ∧ w'.cell? ⟨T26, 1, none⟩ = some (.slice R4 N3 rc4) ∧ w'.cell? ⟨T26, 2, none⟩ = some (.slice C4 M3 cc4) ∧ w'.cell? ⟨T26, 3, none⟩ = some (.int .i64 t3))) (by kernel_rfl) (by exact E0) (fun hHeld => ?_)
        refine wpAnyH_takeD (i := 0) (d := 133) (v := ?_) rfl (by kernel_rfl) (by kernel_rfl) (by kernel_rfl) (by kernel_rfl) (fun _ _ _ h => h) (Or.inl ⟨by rfl, ?_⟩) (by assumption) ?_
        rotate_left
        · (intro w hSw; (try dsimp only at hSw); go_simp; try with_reducible rfl)
        simp only [Act.put, List.setIfInBounds_toArray, List.set_cons_zero, List.set_cons_succ]
        refine wpAnyH_takeD (i := 1) (d := 134) (v := ?_) rfl (by kernel_rfl) (by kernel_rfl) (by kernel_rfl) (by kernel_rfl) (fun _ _ _ h => h) (Or.inl ⟨by rfl, ?_⟩) (by assumption) ?_
        rotate_left
        · (intro w hSw; (try dsimp only at hSw); go_simp; try with_reducible rfl)
        simp only [Act.put, List.setIfInBounds_toArray, List.set_cons_zero, List.set_cons_succ]
        refine wpAnyH_takeD (i := 2) (d := 135) (v := ?_) rfl (by kernel_rfl) (by kernel_rfl) (by kernel_rfl) (by kernel_rfl) (fun _ _ _ h => h) (Or.inl ⟨by rfl, ?_⟩) (by assumption) ?_
        rotate_left
        · (intro w hSw; (try dsimp only at hSw); go_simp; try with_reducible rfl)
        simp only [Act.put, List.setIfInBounds_toArray, List.set_cons_zero, List.set_cons_succ]
        refine wpAnyH_takeD (i := 3) (d := 136) (v := ?_) rfl (by kernel_rfl) (by kernel_rfl) (by kernel_rfl) (by kernel_rfl) (fun _ _ _ h => h) (Or.inl ⟨by rfl, ?_⟩) (by assumption) ?_
        rotate_left
        · (intro w hSw; (try dsimp only at hSw); go_simp; try with_reducible rfl)
        simp only [Act.put, List.setIfInBounds_toArray, List.set_cons_zero, List.set_cons_succ]
        refine wpAnyH_takeD (i := 4) (d := 137) (v := ?_) rfl (by kernel_rfl) (by kernel_rfl) (by kernel_rfl) (by kernel_rfl) (fun _ _ _ h => h) (Or.inl ⟨by rfl, ?_⟩) (by assumption) ?_
        rotate_left
        · (intro w hSw; (try dsimp only at hSw); go_simp; try with_reducible rfl)
        simp only [Act.put, List.setIfInBounds_toArray, List.set_cons_zero, List.set_cons_succ]
        refine wpAnyH_takeD (i := 5) (d := 138) (v := ?_) rfl (by kernel_rfl) (by kernel_rfl) (by kernel_rfl) (by kernel_rfl) (fun _ _ _ h => h) (Or.inl ⟨by rfl, ?_⟩) (by assumption) ?_
        rotate_left
        · (intro w hSw; (try dsimp only at hSw); go_simp; try with_reducible rfl)
        simp only [Act.put, List.setIfInBounds_toArray, List.set_cons_zero, List.set_cons_succ]
        refine wpAnyH_ready (rs := [6]) (by kernel_rfl) (by simp) ?_
        refine AllReadyH.cons rfl (fun K hK => ?_) AllReadyH.nil
        go_simp
        (go_at_call 16; refine (pSameRounding_any X3 R3 C3 X4 R4 C4 N3 N3 M3 xc3 rc3 cc3 xc4 rc4 cc4 K3 rs3 cs3 t3 _ (by first | exact HZ8.out | exact HZ8.out.below ((Below.refl _ _).drew) | exact HZ8.out.below (below_drewN (Below.refl _ _) _)) (by first | exact HV8.out | exact HV8.out.below ((Below.refl _ _).drew) | exact HV8.out.below (below_drewN (Below.refl _ _) _)) (by omega) (by omega) (by omega) (fun j hj => by have := HK3.out j hj; omega)).mono ?_; rintro e v9 ⟨rfl, bv⟩; replace bv : Below v8.heap.size v8 v9 := (by first | exact bv | exact (Below.refl _ _).drew.trans bv | exact (below_drewN (Below.refl _ _) _).trans bv); have q9 := HQ8.out v9 bv; have D9 := Lib.hid (D8.out.trans (bv.mono D8.out.size)); have HR9 := Lib.hid (HZ8.out.below bv); clear bv)
        go_wp2_with fail
        refine hK.out _ _ ?_ (fun hHeld => ?_)
        · exact q9
        clear hK K
        try simp only [Act.put, List.setIfInBounds_toArray, List.set_cons_zero, List.set_cons_succ]
        refine wpAnyH_takeD (i := 7) (d := 140) (v := ?_) rfl (by kernel_rfl) (by kernel_rfl) (by kernel_rfl) (by kernel_rfl) (fun _ _ _ h => h) (Or.inl ⟨by rfl, ?_⟩) (by assumption) ?_
        rotate_left
        · (intro w hSw; (try dsimp only at hSw); go_simp; try with_reducible rfl)
        simp only [Act.put, List.setIfInBounds_toArray, List.set_cons_zero, List.set_cons_succ]
        refine wpAnyH_takeD (i := 8) (d := 141) (v := ?_) rfl (by kernel_rfl) (by kernel_rfl) (by kernel_rfl) (by kernel_rfl) (fun _ _ _ h => h) (Or.inl ⟨by rfl, ?_⟩) (by assumption) ?_
        rotate_left
        · (intro w hSw; (try dsimp only at hSw); go_simp; try with_reducible rfl)
        simp only [Act.put, List.setIfInBounds_toArray, List.set_cons_zero, List.set_cons_succ]
        refine wpAnyH_takeD (i := 9) (d := 142) (v := ?_) rfl (by kernel_rfl) (by kernel_rfl) (by kernel_rfl) (by kernel_rfl) (fun _ _ _ h => h) (Or.inl ⟨by rfl, ?_⟩) (by assumption) ?_
        rotate_left
        · (intro w hSw; (try dsimp only at hSw); go_simp; try with_reducible rfl)
        simp only [Act.put, List.setIfInBounds_toArray, List.set_cons_zero, List.set_cons_succ]
        refine wpAnyH_takeD (i := 10) (d := 143) (v := ?_) rfl (by kernel_rfl) (by kernel_rfl) (by kernel_rfl) (by kernel_rfl) (fun _ _ _ h => h) (Or.inl ⟨by rfl, ?_⟩) (by assumption) ?_
        rotate_left
        · (intro w hSw; (try dsimp only at hSw); go_simp; try with_reducible rfl)
        simp only [Act.put, List.setIfInBounds_toArray, List.set_cons_zero, List.set_cons_succ]
        refine wpAnyH_takeD (i := 11) (d := 144) (v := ?_) rfl (by kernel_rfl) (by kernel_rfl) (by kernel_rfl) (by kernel_rfl) (fun _ _ _ h => h) (Or.inl ⟨by rfl, ?_⟩) (by assumption) ?_
        rotate_left
        · (intro w hSw; (try dsimp only at hSw); go_simp; try with_reducible rfl)
        simp only [Act.put, List.setIfInBounds_toArray, List.set_cons_zero, List.set_cons_succ]
        refine wpAnyH_takeD (i := 12) (d := 145) (v := undef) rfl (by kernel_rfl) (by kernel_rfl) (by kernel_rfl) (by kernel_rfl) (fun _ _ _ h => h) (Or.inr ⟨by rfl, rfl⟩) (by assumption) ?_
        simp only [Act.put, List.setIfInBounds_toArray, List.set_cons_zero, List.set_cons_succ]
        refine wpAnyH_takeD (i := 13) (d := 146) (v := undef) rfl (by kernel_rfl) (by kernel_rfl) (by kernel_rfl) (by kernel_rfl) (fun _ _ _ h => h) (Or.inr ⟨by rfl, rfl⟩) (by assumption) ?_
        simp only [Act.put, List.setIfInBounds_toArray, List.set_cons_zero, List.set_cons_succ]
        refine wpAnyH_takeD (i := 14) (d := 147) (v := undef) rfl (by kernel_rfl) (by kernel_rfl) (by kernel_rfl) (by kernel_rfl) (fun _ _ _ h => h) (Or.inr ⟨by rfl, rfl⟩) (by assumption) ?_
        simp only [Act.put, List.setIfInBounds_toArray, List.set_cons_zero, List.set_cons_succ]
        refine wpAnyH_takeD (i := 15) (d := 148) (v := undef) rfl (by kernel_rfl) (by kernel_rfl) (by kernel_rfl) (by kernel_rfl) (fun _ _ _ h => h) (Or.inr ⟨by rfl, rfl⟩) (by assumption) ?_
        simp only [Act.put, List.setIfInBounds_toArray, List.set_cons_zero, List.set_cons_succ]
        refine wpAnyH_takeD (i := 16) (d := 149) (v := undef) rfl (by kernel_rfl) (by kernel_rfl) (by kernel_rfl) (by kernel_rfl) (fun _ _ _ h => h) (Or.inr ⟨by rfl, rfl⟩) (by assumption) ?_
        simp only [Act.put, List.setIfInBounds_toArray, List.set_cons_zero, List.set_cons_succ]
        refine wpAnyH_takeD (i := 17) (d := 150) (v := undef) rfl (by kernel_rfl) (by kernel_rfl) (by kernel_rfl) (by kernel_rfl) (fun _ _ _ h => h) (Or.inr ⟨by rfl, rfl⟩) (by assumption) ?_
        simp only [Act.put, List.setIfInBounds_toArray, List.set_cons_zero, List.set_cons_succ]
        refine wpAnyH_takeD (i := 18) (d := 151) (v := undef) rfl (by kernel_rfl) (by kernel_rfl) (by kernel_rfl) (by kernel_rfl) (fun _ _ _ h => h) (Or.inr ⟨by rfl, rfl⟩) (by assumption) ?_
        simp only [Act.put, List.setIfInBounds_toArray, List.set_cons_zero, List.set_cons_succ]
        refine wpAnyH_takeD (i := 19) (d := 152) (v := undef) rfl (by kernel_rfl) (by kernel_rfl) (by kernel_rfl) (by kernel_rfl) (fun _ _ _ h => h) (Or.inr ⟨by rfl, rfl⟩) (by assumption) ?_
        simp only [Act.put, List.setIfInBounds_toArray, List.set_cons_zero, List.set_cons_succ]
        refine wpAnyH_takeD (i := 20) (d := 153) (v := undef) rfl (by kernel_rfl) (by kernel_rfl) (by kernel_rfl) (by kernel_rfl) (fun _ _ _ h => h) (Or.inr ⟨by rfl, rfl⟩) (by assumption) ?_
        simp only [Act.put, List.setIfInBounds_toArray, List.set_cons_zero, List.set_cons_succ]
        refine wpAnyH_takeD (i := 21) (d := 154) (v := undef) rfl (by kernel_rfl) (by kernel_rfl) (by kernel_rfl) (by kernel_rfl) (fun _ _ _ h => h) (Or.inr ⟨by rfl, rfl⟩) (by assumption) ?_
        simp only [Act.put, List.setIfInBounds_toArray, List.set_cons_zero, List.set_cons_succ]
        refine wpAnyH_takeD (i := 22) (d := 155) (v := undef) rfl (by kernel_rfl) (by kernel_rfl) (by kernel_rfl) (by kernel_rfl) (fun _ _ _ h => h) (Or.inr ⟨by rfl, rfl⟩) (by assumption) ?_
        simp only [Act.put, List.setIfInBounds_toArray, List.set_cons_zero, List.set_cons_succ]
        refine wpAnyH_takeD (i := 23) (d := 156) (v := undef) rfl (by kernel_rfl) (by kernel_rfl) (by kernel_rfl) (by kernel_rfl) (fun _ _ _ h => h) (Or.inr ⟨by rfl, rfl⟩) (by assumption) ?_
        simp only [Act.put, List.setIfInBounds_toArray, List.set_cons_zero, List.set_cons_succ]
        refine wpAnyH_takeD (i := 24) (d := 157) (v := undef) rfl (by kernel_rfl) (by kernel_rfl) (by kernel_rfl) (by kernel_rfl) (fun _ _ _ h => h) (Or.inr ⟨by rfl, rfl⟩) (by assumption) ?_
        simp only [Act.put, List.setIfInBounds_toArray, List.set_cons_zero, List.set_cons_succ]
        refine wpAnyH_takeD (i := 25) (d := 158) (v := undef) rfl (by kernel_rfl) (by kernel_rfl) (by kernel_rfl) (by kernel_rfl) (fun _ _ _ h => h) (Or.inr ⟨by rfl, rfl⟩) (by assumption) ?_
        simp only [Act.put, List.setIfInBounds_toArray, List.set_cons_zero, List.set_cons_succ]
        refine wpAnyH_takeD (i := 26) (d := 159) (v := ?_) rfl (by kernel_rfl) (by kernel_rfl) (by kernel_rfl) (by kernel_rfl) (fun _ _ _ h => h) (Or.inl ⟨by rfl, ?_⟩) (by assumption) ?_
        rotate_left
        · (intro w hSw; (try dsimp only at hSw); go_simp; try with_reducible rfl)
        simp only [Act.put, List.setIfInBounds_toArray, List.set_cons_zero, List.set_cons_succ]
        refine wpAnyH_takeD (i := 27) (d := 160) (v := ?_) rfl (by kernel_rfl) (by kernel_rfl) (by kernel_rfl) (by kernel_rfl) (fun _ _ _ h => h) (Or.inl ⟨by rfl, ?_⟩) (by assumption) ?_
        rotate_left
        · (intro w hSw; (try dsimp only at hSw); go_simp; try with_reducible rfl)
        simp only [Act.put, List.setIfInBounds_toArray, List.set_cons_zero, List.set_cons_succ]
        refine wpAnyH_takeD (i := 28) (d := 4) (v := ?_) rfl (by kernel_rfl) (by kernel_rfl) (by kernel_rfl) (by kernel_rfl) (fun _ _ _ h => h) (Or.inl ⟨by rfl, ?_⟩) (by assumption) ?_
        rotate_left
        · (intro w hSw; (try dsimp only at hSw); go_simp; try with_reducible rfl)
        simp only [Act.put, List.setIfInBounds_toArray, List.set_cons_zero, List.set_cons_succ]
        refine wpAnyH_done (by kernel_rfl) ?_ _
        go_wp2
        go_ret
        exact ⟨rfl, D9.out⟩
      case true =>
        obtain ⟨f, g, rfl, rfl, hf, hg, hsf, hsg⟩ := HO3.out rfl
        have HSR : Hid (∀ W, Ints W R3 N3 (lst N3 f) → Calls Try.prog 23 #[.slice R3 N3 rc3] W fun e w' => e = .returned (.int .i64 t3) ∧ w' = W) := Lib.hid fun W h => (pSum_any R3 N3 rc3 f W h (by omega) hf).mono fun _ _ ⟨h1, h2⟩ => ⟨by rw [h1, hsf], h2⟩
        have HSC : Hid (∀ W, Ints W C3 M3 (lst M3 g) → Calls Try.prog 23 #[.slice C3 M3 cc3] W fun e w' => e = .returned (.int .i64 t3) ∧ w' = W) := Lib.hid fun W h => (pSum_any C3 M3 cc3 g W h (by omega) hg).mono fun _ _ ⟨h1, h2⟩ => ⟨by rw [h1, hsg], h2⟩
        clear hf hg hsf hsg HO3
        go_wp2_with fail
        clear hT26
        generalize v7.alloc (.cells #[.slice X4 N3 xc4, .slice R4 N3 rc4, .slice C4 M3 cc4, .int .i64 t3] 26) = v8 at *
        have E0 : (v8.cell? ⟨T24, 0, none⟩ = some (.slice X3 N3 xc3) ∧ v8.cell? ⟨T24, 1, none⟩ = some (.slice R3 N3 rc3) ∧ v8.cell? ⟨T24, 2, none⟩ = some (.slice C3 M3 cc3) ∧ v8.cell? ⟨T24, 3, none⟩ = some (.int .i64 t3) ∧ v8.cell? ⟨T26, 0, none⟩ = some (.slice X4 N3 xc4) ∧ v8.cell? ⟨T26, 1, none⟩ = some (.slice R4 N3 rc4) ∧ v8.cell? ⟨T26, 2, none⟩ = some (.slice C4 M3 cc4) ∧ v8.cell? ⟨T26, 3, none⟩ = some (.int .i64 t3)) := ⟨x0, x1, x2, x3, y0, y1, y2, y3⟩
        have HQ8 : Hid (∀ v9, Below v8.heap.size v8 v9 → (v9.cell? ⟨T24, 0, none⟩ = some (.slice X3 N3 xc3) ∧ v9.cell? ⟨T24, 1, none⟩ = some (.slice R3 N3 rc3) ∧ v9.cell? ⟨T24, 2, none⟩ = some (.slice C3 M3 cc3) ∧ v9.cell? ⟨T24, 3, none⟩ = some (.int .i64 t3) ∧ v9.cell? ⟨T26, 0, none⟩ = some (.slice X4 N3 xc4) ∧ v9.cell? ⟨T26, 1, none⟩ = some (.slice R4 N3 rc4) ∧ v9.cell? ⟨T26, 2, none⟩ = some (.slice C4 M3 cc4) ∧ v9.cell? ⟨T26, 3, none⟩ = some (.int .i64 t3))) := Lib.hid (fun v9 bv => by
          have hx := box_below XB8.out bv
          have hy := box_below YB8.out bv
          exact ⟨box_cell hx 0 _ rfl, box_cell hx 1 _ rfl, box_cell hx 2 _ rfl, box_cell hx 3 _ rfl, box_cell hy 0 _ rfl, box_cell hy 1 _ rfl, box_cell hy 2 _ rfl, box_cell hy 3 _ rfl⟩)
        clear XB8 YB8
        refine wp_region_held_drew (S := fun w' => (w'.cell? ⟨T24, 0, none⟩ = some (.slice X3 N3 xc3) ∧ w'.cell? ⟨T24, 1, none⟩ = some (.slice R3 N3 rc3) ∧ w'.cell? ⟨T24, 2, none⟩ = some (.slice C3 M3 cc3) ∧ w'.cell? ⟨T24, 3, none⟩ = some (.int .i64 t3) ∧ w'.cell? ⟨T26, 0, none⟩ = some (.slice X4 N3 xc4) ∧ w'.cell? ⟨T26, 1, none⟩ = some (.slice R4 N3 rc4) ∧ w'.cell? ⟨T26, 2, none⟩ = some (.slice C4 M3 cc4) ∧ w'.cell? ⟨T26, 3, none⟩ = some (.int .i64 t3))) (by kernel_rfl) (by exact E0) (fun hHeld => ?_)
        refine wpAnyH_takeD (i := 0) (d := 133) (v := ?_) rfl (by kernel_rfl) (by kernel_rfl) (by kernel_rfl) (by kernel_rfl) (fun _ _ _ h => h) (Or.inl ⟨by rfl, ?_⟩) (by assumption) ?_
        rotate_left
        · (intro w hSw; (try dsimp only at hSw); go_simp; try with_reducible rfl)
        simp only [Act.put, List.setIfInBounds_toArray, List.set_cons_zero, List.set_cons_succ]
        refine wpAnyH_takeD (i := 1) (d := 134) (v := ?_) rfl (by kernel_rfl) (by kernel_rfl) (by kernel_rfl) (by kernel_rfl) (fun _ _ _ h => h) (Or.inl ⟨by rfl, ?_⟩) (by assumption) ?_
        rotate_left
        · (intro w hSw; (try dsimp only at hSw); go_simp; try with_reducible rfl)
        simp only [Act.put, List.setIfInBounds_toArray, List.set_cons_zero, List.set_cons_succ]
        refine wpAnyH_takeD (i := 2) (d := 135) (v := ?_) rfl (by kernel_rfl) (by kernel_rfl) (by kernel_rfl) (by kernel_rfl) (fun _ _ _ h => h) (Or.inl ⟨by rfl, ?_⟩) (by assumption) ?_
        rotate_left
        · (intro w hSw; (try dsimp only at hSw); go_simp; try with_reducible rfl)
        simp only [Act.put, List.setIfInBounds_toArray, List.set_cons_zero, List.set_cons_succ]
        refine wpAnyH_takeD (i := 3) (d := 136) (v := ?_) rfl (by kernel_rfl) (by kernel_rfl) (by kernel_rfl) (by kernel_rfl) (fun _ _ _ h => h) (Or.inl ⟨by rfl, ?_⟩) (by assumption) ?_
        rotate_left
        · (intro w hSw; (try dsimp only at hSw); go_simp; try with_reducible rfl)
        simp only [Act.put, List.setIfInBounds_toArray, List.set_cons_zero, List.set_cons_succ]
        refine wpAnyH_takeD (i := 4) (d := 137) (v := ?_) rfl (by kernel_rfl) (by kernel_rfl) (by kernel_rfl) (by kernel_rfl) (fun _ _ _ h => h) (Or.inl ⟨by rfl, ?_⟩) (by assumption) ?_
        rotate_left
        · (intro w hSw; (try dsimp only at hSw); go_simp; try with_reducible rfl)
        simp only [Act.put, List.setIfInBounds_toArray, List.set_cons_zero, List.set_cons_succ]
        refine wpAnyH_takeD (i := 5) (d := 138) (v := ?_) rfl (by kernel_rfl) (by kernel_rfl) (by kernel_rfl) (by kernel_rfl) (fun _ _ _ h => h) (Or.inl ⟨by rfl, ?_⟩) (by assumption) ?_
        rotate_left
        · (intro w hSw; (try dsimp only at hSw); go_simp; try with_reducible rfl)
        simp only [Act.put, List.setIfInBounds_toArray, List.set_cons_zero, List.set_cons_succ]
        refine wpAnyH_ready (rs := [6]) (by kernel_rfl) (by simp) ?_
        refine AllReadyH.cons rfl (fun K hK => ?_) AllReadyH.nil
        go_simp
        (go_at_call 16; refine (pSameRounding_any X3 R3 C3 X4 R4 C4 N3 N3 M3 xc3 rc3 cc3 xc4 rc4 cc4 K3 _ _ t3 _ (by first | exact HZ8.out | exact HZ8.out.below ((Below.refl _ _).drew) | exact HZ8.out.below (below_drewN (Below.refl _ _) _)) (by first | exact HV8.out | exact HV8.out.below ((Below.refl _ _).drew) | exact HV8.out.below (below_drewN (Below.refl _ _) _)) (by omega) (by omega) (by omega) (fun j hj => by have := HK3.out j hj; omega)).mono ?_; rintro e v9 ⟨rfl, bv⟩; replace bv : Below v8.heap.size v8 v9 := (by first | exact bv | exact (Below.refl _ _).drew.trans bv | exact (below_drewN (Below.refl _ _) _).trans bv); have q9 := HQ8.out v9 bv; have D9 := Lib.hid (D8.out.trans (bv.mono D8.out.size)); have HR9 := Lib.hid (HZ8.out.below bv); clear bv)
        go_wp2_with fail
        refine hK.out _ _ ?_ (fun hHeld => ?_)
        · exact q9
        clear hK K
        try simp only [Act.put, List.setIfInBounds_toArray, List.set_cons_zero, List.set_cons_succ]
        refine wpAnyH_takeD (i := 7) (d := 140) (v := ?_) rfl (by kernel_rfl) (by kernel_rfl) (by kernel_rfl) (by kernel_rfl) (fun _ _ _ h => h) (Or.inl ⟨by rfl, ?_⟩) (by assumption) ?_
        rotate_left
        · (intro w hSw; (try dsimp only at hSw); go_simp; try with_reducible rfl)
        simp only [Act.put, List.setIfInBounds_toArray, List.set_cons_zero, List.set_cons_succ]
        refine wpAnyH_takeD (i := 8) (d := 141) (v := ?_) rfl (by kernel_rfl) (by kernel_rfl) (by kernel_rfl) (by kernel_rfl) (fun _ _ _ h => h) (Or.inl ⟨by rfl, ?_⟩) (by assumption) ?_
        rotate_left
        · (intro w hSw; (try dsimp only at hSw); go_simp; try with_reducible rfl)
        simp only [Act.put, List.setIfInBounds_toArray, List.set_cons_zero, List.set_cons_succ]
        refine wpAnyH_takeD (i := 9) (d := 142) (v := ?_) rfl (by kernel_rfl) (by kernel_rfl) (by kernel_rfl) (by kernel_rfl) (fun _ _ _ h => h) (Or.inl ⟨by rfl, ?_⟩) (by assumption) ?_
        rotate_left
        · (intro w hSw; (try dsimp only at hSw); go_simp; try with_reducible rfl)
        simp only [Act.put, List.setIfInBounds_toArray, List.set_cons_zero, List.set_cons_succ]
        refine wpAnyH_takeD (i := 10) (d := 143) (v := ?_) rfl (by kernel_rfl) (by kernel_rfl) (by kernel_rfl) (by kernel_rfl) (fun _ _ _ h => h) (Or.inl ⟨by rfl, ?_⟩) (by assumption) ?_
        rotate_left
        · (intro w hSw; (try dsimp only at hSw); go_simp; try with_reducible rfl)
        simp only [Act.put, List.setIfInBounds_toArray, List.set_cons_zero, List.set_cons_succ]
        refine wpAnyH_takeD (i := 11) (d := 144) (v := ?_) rfl (by kernel_rfl) (by kernel_rfl) (by kernel_rfl) (by kernel_rfl) (fun _ _ _ h => h) (Or.inl ⟨by rfl, ?_⟩) (by assumption) ?_
        rotate_left
        · (intro w hSw; (try dsimp only at hSw); go_simp; try with_reducible rfl)
        simp only [Act.put, List.setIfInBounds_toArray, List.set_cons_zero, List.set_cons_succ]
        refine wpAnyH_takeD (i := 12) (d := 145) (v := ?_) rfl (by kernel_rfl) (by kernel_rfl) (by kernel_rfl) (by kernel_rfl) (fun _ _ _ h => h) (Or.inl ⟨by rfl, ?_⟩) (by assumption) ?_
        rotate_left
        · (intro w hSw; (try dsimp only at hSw); go_simp; try with_reducible rfl)
        simp only [Act.put, List.setIfInBounds_toArray, List.set_cons_zero, List.set_cons_succ]
        refine wpAnyH_takeD (i := 13) (d := 146) (v := ?_) rfl (by kernel_rfl) (by kernel_rfl) (by kernel_rfl) (by kernel_rfl) (fun _ _ _ h => h) (Or.inl ⟨by rfl, ?_⟩) (by assumption) ?_
        rotate_left
        · (intro w hSw; (try dsimp only at hSw); go_simp; try with_reducible rfl)
        simp only [Act.put, List.setIfInBounds_toArray, List.set_cons_zero, List.set_cons_succ]
        refine wpAnyH_takeD (i := 15) (d := 148) (v := ?_) rfl (by kernel_rfl) (by kernel_rfl) (by kernel_rfl) (by kernel_rfl) (fun _ _ _ h => h) (Or.inl ⟨by rfl, ?_⟩) (by assumption) ?_
        rotate_left
        · (intro w hSw; (try dsimp only at hSw); go_simp; try with_reducible rfl)
        simp only [Act.put, List.setIfInBounds_toArray, List.set_cons_zero, List.set_cons_succ]
        refine wpAnyH_takeD (i := 16) (d := 149) (v := ?_) rfl (by kernel_rfl) (by kernel_rfl) (by kernel_rfl) (by kernel_rfl) (fun _ _ _ h => h) (Or.inl ⟨by rfl, ?_⟩) (by assumption) ?_
        rotate_left
        · (intro w hSw; (try dsimp only at hSw); go_simp; try with_reducible rfl)
        simp only [Act.put, List.setIfInBounds_toArray, List.set_cons_zero, List.set_cons_succ]
        refine wpAnyH_ready (rs := [14]) (by kernel_rfl) (by simp) ?_
        refine AllReadyH.cons rfl (fun K hK => ?_) AllReadyH.nil
        go_simp
        (go_at_call 23; refine (HSR.out _ HR9.out.r).mono ?_; rintro e v10 ⟨rfl, rfl⟩)
        go_wp2_with fail
        refine hK.out _ _ ?_ (fun hHeld => ?_)
        · exact q9
        clear hK K
        try simp only [Act.put, List.setIfInBounds_toArray, List.set_cons_zero, List.set_cons_succ]
        refine wpAnyH_takeD (i := 17) (d := 150) (v := ?_) rfl (by kernel_rfl) (by kernel_rfl) (by kernel_rfl) (by kernel_rfl) (fun _ _ _ h => h) (Or.inl ⟨by rfl, ?_⟩) (by assumption) ?_
        rotate_left
        · (intro w hSw; (try dsimp only at hSw); go_simp; try with_reducible rfl)
        simp only [Act.put, List.setIfInBounds_toArray, List.set_cons_zero, List.set_cons_succ]
        refine wpAnyH_takeD (i := 18) (d := 151) (v := ?_) rfl (by kernel_rfl) (by kernel_rfl) (by kernel_rfl) (by kernel_rfl) (fun _ _ _ h => h) (Or.inl ⟨by rfl, ?_⟩) (by assumption) ?_
        rotate_left
        · (intro w hSw; (try dsimp only at hSw); go_simp; try with_reducible rfl)
        simp only [Act.put, List.setIfInBounds_toArray, List.set_cons_zero, List.set_cons_succ]
        refine wpAnyH_takeD (i := 19) (d := 152) (v := ?_) rfl (by kernel_rfl) (by kernel_rfl) (by kernel_rfl) (by kernel_rfl) (fun _ _ _ h => h) (Or.inl ⟨by rfl, ?_⟩) (by assumption) ?_
        rotate_left
        · (intro w hSw; (try dsimp only at hSw); go_simp; try with_reducible rfl)
        simp only [Act.put, List.setIfInBounds_toArray, List.set_cons_zero, List.set_cons_succ]
        refine wpAnyH_takeD (i := 20) (d := 153) (v := ?_) rfl (by kernel_rfl) (by kernel_rfl) (by kernel_rfl) (by kernel_rfl) (fun _ _ _ h => h) (Or.inl ⟨by rfl, ?_⟩) (by assumption) ?_
        rotate_left
        · (intro w hSw; (try dsimp only at hSw); go_simp; try with_reducible rfl)
        simp only [Act.put, List.setIfInBounds_toArray, List.set_cons_zero, List.set_cons_succ]
        refine wpAnyH_takeD (i := 22) (d := 155) (v := ?_) rfl (by kernel_rfl) (by kernel_rfl) (by kernel_rfl) (by kernel_rfl) (fun _ _ _ h => h) (Or.inl ⟨by rfl, ?_⟩) (by assumption) ?_
        rotate_left
        · (intro w hSw; (try dsimp only at hSw); go_simp; try with_reducible rfl)
        simp only [Act.put, List.setIfInBounds_toArray, List.set_cons_zero, List.set_cons_succ]
        refine wpAnyH_takeD (i := 23) (d := 156) (v := ?_) rfl (by kernel_rfl) (by kernel_rfl) (by kernel_rfl) (by kernel_rfl) (fun _ _ _ h => h) (Or.inl ⟨by rfl, ?_⟩) (by assumption) ?_
        rotate_left
        · (intro w hSw; (try dsimp only at hSw); go_simp; try with_reducible rfl)
        simp only [Act.put, List.setIfInBounds_toArray, List.set_cons_zero, List.set_cons_succ]
        refine wpAnyH_ready (rs := [21]) (by kernel_rfl) (by simp) ?_
        refine AllReadyH.cons rfl (fun K hK => ?_) AllReadyH.nil
        go_simp
        (go_at_call 23; refine (HSC.out _ HR9.out.c).mono ?_; rintro e v10 ⟨rfl, rfl⟩)
        go_wp2_with fail
        refine hK.out _ _ ?_ (fun hHeld => ?_)
        · exact q9
        clear hK K
        try simp only [Act.put, List.setIfInBounds_toArray, List.set_cons_zero, List.set_cons_succ]
        refine wpAnyH_takeD (i := 24) (d := 157) (v := ?_) rfl (by kernel_rfl) (by kernel_rfl) (by kernel_rfl) (by kernel_rfl) (fun _ _ _ h => h) (Or.inl ⟨by rfl, ?_⟩) (by assumption) ?_
        rotate_left
        · (intro w hSw; (try dsimp only at hSw); go_simp; try with_reducible rfl)
        simp only [Act.put, List.setIfInBounds_toArray, List.set_cons_zero, List.set_cons_succ]
        refine wpAnyH_takeD (i := 25) (d := 158) (v := ?_) rfl (by kernel_rfl) (by kernel_rfl) (by kernel_rfl) (by kernel_rfl) (fun _ _ _ h => h) (Or.inl ⟨by rfl, ?_⟩) (by assumption) ?_
        rotate_left
        · (intro w hSw; (try dsimp only at hSw); go_simp; try with_reducible rfl)
        simp only [Act.put, List.setIfInBounds_toArray, List.set_cons_zero, List.set_cons_succ]
        refine wpAnyH_takeD (i := 26) (d := 159) (v := ?_) rfl (by kernel_rfl) (by kernel_rfl) (by kernel_rfl) (by kernel_rfl) (fun _ _ _ h => h) (Or.inl ⟨by rfl, ?_⟩) (by assumption) ?_
        rotate_left
        · (intro w hSw; (try dsimp only at hSw); go_simp; try with_reducible rfl)
        simp only [Act.put, List.setIfInBounds_toArray, List.set_cons_zero, List.set_cons_succ]
        refine wpAnyH_takeD (i := 27) (d := 160) (v := ?_) rfl (by kernel_rfl) (by kernel_rfl) (by kernel_rfl) (by kernel_rfl) (fun _ _ _ h => h) (Or.inl ⟨by rfl, ?_⟩) (by assumption) ?_
        rotate_left
        · (intro w hSw; (try dsimp only at hSw); go_simp; try with_reducible rfl)
        simp only [Act.put, List.setIfInBounds_toArray, List.set_cons_zero, List.set_cons_succ]
        refine wpAnyH_takeD (i := 28) (d := 4) (v := ?_) rfl (by kernel_rfl) (by kernel_rfl) (by kernel_rfl) (by kernel_rfl) (fun _ _ _ h => h) (Or.inl ⟨by rfl, ?_⟩) (by assumption) ?_
        rotate_left
        · (intro w hSw; (try dsimp only at hSw); go_simp; try with_reducible rfl)
        simp only [Act.put, List.setIfInBounds_toArray, List.set_cons_zero, List.set_cons_succ]
        refine wpAnyH_done (by kernel_rfl) ?_ _
        go_wp2
        go_ret
        exact ⟨rfl, D9.out⟩
    case true =>
      obtain ⟨rfl, hb2, hb100, hgd, hmx, hrnd, hsh, hnear⟩ := HOK.out rfl
      have x0 := box_cell XB6.out 0 (.slice X N xc) rfl
      have x1 := box_cell XB6.out 1 (.slice R N rc) rfl
      have x2 := box_cell XB6.out 2 (.slice C M cc) rfl
      have x3 := box_cell XB6.out 3 (.int .i64 t) rfl
      have HRND := Lib.hid hrnd
      have HMX := Lib.hid hmx
      have HSH := Lib.hid hsh
      have HNR := Lib.hid hnear
      have HGD := Lib.hid hgd
      clear hrnd hmx hsh hnear HOK hgd
      go_wp2_with fail
      clear x0 x1 x2 x3
      refine (implIsRnd_any A X R C N c N xc N rc M cc b t L K rs cs w6 HX6.out HY6.out (by omega) HLL.out (by omega) (by omega) (by omega)).mono ?_
      rintro e w7 ⟨⟨v, rfl, hv⟩, b7⟩
      obtain rfl : v = true := hv.2 HRND.out
      rw [HGD.out]
      have B7 := Lib.hid (B6.out.trans (b7.mono B6.out.size))
      have HX7 := Lib.hid (HX6.out.below b7)
      have HY7 := Lib.hid (HY6.out.below b7)
      have XB7 := Lib.hid (box_below XB6.out b7)
      clear HX6 HY6 B6 XB6 b7 hv HRND HGD
      have x0 := box_cell XB7.out 0 (.slice X N xc) rfl
      have x1 := box_cell XB7.out 1 (.slice R N rc) rfl
      have x2 := box_cell XB7.out 2 (.slice C M cc) rfl
      have x3 := box_cell XB7.out 3 (.int .i64 t) rfl
      go_wp2_with fail
      clear x0 x1 x2 x3
      refine (worst_any A X R C N c xc N rc M cc b t L K w7 HX7.out HY7.out.x HMX.out hb2 hb100 HSH.out HNR.out).mono ?_
      rintro e w8 ⟨wd, sm8, rfl, hw1, hw2, b8⟩
      have B8 := Lib.hid (B7.out.trans (b8.mono B7.out.size))
      clear HX7 HY7 XB7 B7 b8
      go_wp2_with fail
      have BW := B8
      clear B8 hw1 hw2 HMX HSH HNR HLL HK
      refine (drawIR_any a1 n1 c1 w8 (hb1.out.below BW.out) (by omega)).mono ?_
      rintro e v1 ⟨A2, X2, R2, C2, n2, c2, nx, xc2, nr, rc2, nc, cc2, L2, M2, rs2, cs2, b2, t2, rfl, HS2, hX2, HSM, hY2, hnr, hnc, bv⟩
      have D1 := Lib.hid (BW.out.trans (bv.mono BW.out.size))
      have HX1 := Lib.hid hX2
      have HY1 := Lib.hid hY2
      have hS2 := HS2.1
      have hSM := HSM.1
      have HL2 : Hid (∀ j, j < n2 → (L2 j).length ≤ 1099511627776) := Lib.hid fun j hj => by have := HS2.2 j hj; omega
      have HM2 : Hid (∀ j, j < nx → (M2 j).length ≤ 1099511627776) := Lib.hid fun j hj => by have := HSM.2 j hj; omega
      have xb := box_new v1 #[.slice X2 nx xc2, .slice R2 nr rc2, .slice C2 nc cc2, .int .i64 t2] 26
      have bb := below_new v1 (.cells #[.slice X2 nx xc2, .slice R2 nr rc2, .slice C2 nc cc2, .int .i64 t2] 26)
      have D2 := Lib.hid (D1.out.trans (bb.mono D1.out.size))
      have HX2 := Lib.hid (HX1.out.below bb)
      have HY2 := Lib.hid (HY1.out.below bb)
      obtain ⟨T19, hT19⟩ : ∃ T19, v1.heap.size = T19 := ⟨_, rfl⟩
      rw [hT19] at xb
      have XB2 := Lib.hid xb
      clear bv hX2 hY2 HX1 HY1 D1 HS2 HSM xb bb BW
      have x0 : (v1.alloc (.cells #[.slice X2 nx xc2, .slice R2 nr rc2, .slice C2 nc cc2, .int .i64 t2] 26)).cell? ⟨T19, 0, none⟩ = some (.slice X2 nx xc2) := box_cell XB2.out 0 _ rfl
      have x1 : (v1.alloc (.cells #[.slice X2 nx xc2, .slice R2 nr rc2, .slice C2 nc cc2, .int .i64 t2] 26)).cell? ⟨T19, 1, none⟩ = some (.slice R2 nr rc2) := box_cell XB2.out 1 _ rfl
      have x2 : (v1.alloc (.cells #[.slice X2 nx xc2, .slice R2 nr rc2, .slice C2 nc cc2, .int .i64 t2] 26)).cell? ⟨T19, 2, none⟩ = some (.slice C2 nc cc2) := box_cell XB2.out 2 _ rfl
      have x3 : (v1.alloc (.cells #[.slice X2 nx xc2, .slice R2 nr rc2, .slice C2 nc cc2, .int .i64 t2] 26)).cell? ⟨T19, 3, none⟩ = some (.int .i64 t2) := box_cell XB2.out 3 _ rfl
      go_wp2_with fail
      clear x0 x1 x2 x3 hT19
      generalize v1.alloc (.cells #[.slice X2 nx xc2, .slice R2 nr rc2, .slice C2 nc cc2, .int .i64 t2] 26) = v2 at *
      obtain ⟨G, HG⟩ : ∃ G, Hid ((inR b2 2 100 && mxB n2 L2) = G) := ⟨_, Lib.hid rfl⟩
      refine (implIsRnd_any A2 X2 R2 C2 n2 c2 nx xc2 nr rc2 nc cc2 b2 t2 L2 M2 rs2 cs2 v2 HX2.out HY2.out (by omega) HL2.out (by omega) (by omega) (by omega)).mono ?_
      rintro e v3 ⟨⟨q, rfl, hq⟩, bv⟩
      rw [HG.out]
      have D3 := Lib.hid (D2.out.trans (bv.mono D2.out.size))
      have HX3 := Lib.hid (HX2.out.below bv)
      have HY3 := Lib.hid (HY2.out.below bv)
      have XB3 := Lib.hid (box_below XB2.out bv)
      have HQ := Lib.hid hq
      clear D2 HX2 HY2 XB2 bv hq
      have x0 : v3.cell? ⟨T19, 0, none⟩ = some (.slice X2 nx xc2) := box_cell XB3.out 0 _ rfl
      have x1 : v3.cell? ⟨T19, 1, none⟩ = some (.slice R2 nr rc2) := box_cell XB3.out 1 _ rfl
      have x2 : v3.cell? ⟨T19, 2, none⟩ = some (.slice C2 nc cc2) := box_cell XB3.out 2 _ rfl
      have x3 : v3.cell? ⟨T19, 3, none⟩ = some (.int .i64 t2) := box_cell XB3.out 3 _ rfl
      go_wp2_with fail
      clear x0 x1 x2 x3
      refine (specIsRnd_any A2 X2 R2 C2 n2 c2 nx xc2 nr rc2 nc cc2 b2 t2 L2 M2 rs2 cs2 v3 HX3.out HY3.out (by omega) HL2.out (by omega) (by omega) (by omega) HM2.out).mono ?_
      rintro e v4 ⟨⟨q2, rfl, hq2⟩, bv⟩
      rw [HG.out]
      obtain rfl : q = q2 := Bool.eq_iff_iff.2 (HQ.out.trans hq2.symm)
      have D4 := Lib.hid (D3.out.trans (bv.mono D3.out.size))
      have HX4 := Lib.hid (HX3.out.below bv)
      clear D3 HX3 HY3 XB3 bv hq2 HQ HG HM2
      have kk1 : (G != G) = false := by simp
      have kk2 : (q != q) = false := by simp
      obtain ⟨N3, M3, K3, rs3, cs3, t3, ok3, hN3, hM3, hK3, hok3, hms, hmi⟩ := mg_law n2 L2 (by omega) HL2.out
      have HK3 := Lib.hid hK3
      have HO3 := Lib.hid hok3
      have HMS := Lib.hid hms
      have HMI := Lib.hid hmi
      clear hK3 hok3 hms hmi HL2
      go_wp2_with fail
      clear kk1 kk2
      refine (HMI.out A2 c2 v4 HX4.out).mono ?_
      rintro e v5 ⟨X3, R3, C3, xc3, rc3, cc3, rfl, hZ, bv⟩
      have D5 := Lib.hid (D4.out.trans (bv.mono D4.out.size))
      have HX5 := Lib.hid (HX4.out.below bv)
      have HZ5 := Lib.hid hZ.read
      clear D4 HX4 hZ bv HMI
      have xb := box_new v5 #[.slice X3 N3 xc3, .slice R3 N3 rc3, .slice C3 M3 cc3, .int .i64 t3] 26
      have bb := below_new v5 (.cells #[.slice X3 N3 xc3, .slice R3 N3 rc3, .slice C3 M3 cc3, .int .i64 t3] 26)
      have D6 := Lib.hid (D5.out.trans (bb.mono D5.out.size))
      have HX6 := Lib.hid (HX5.out.below bb)
      have HZ6 := Lib.hid (HZ5.out.below bb)
      obtain ⟨T24, hT24⟩ : ∃ T24, v5.heap.size = T24 := ⟨_, rfl⟩
      rw [hT24] at xb
      have XB6 := Lib.hid xb
      clear D5 HX5 HZ5 xb bb
      go_wp2_with fail
      clear hT24
      generalize v5.alloc (.cells #[.slice X3 N3 xc3, .slice R3 N3 rc3, .slice C3 M3 cc3, .int .i64 t3] 26) = v6 at *
      refine (HMS.out A2 c2 v6 HX6.out).mono ?_
      rintro e v7 ⟨X4, R4, C4, xc4, rc4, cc4, rfl, hV, bv⟩
      have D7 := Lib.hid (D6.out.trans (bv.mono D6.out.size))
      have HZ7 := Lib.hid (HZ6.out.below bv)
      have HV7 := Lib.hid hV.read
      have XB7 := Lib.hid (box_below XB6.out bv)
      clear D6 HX6 HZ6 XB6 hV bv HMS
      have xb := box_new v7 #[.slice X4 N3 xc4, .slice R4 N3 rc4, .slice C4 M3 cc4, .int .i64 t3] 26
      have bb := below_new v7 (.cells #[.slice X4 N3 xc4, .slice R4 N3 rc4, .slice C4 M3 cc4, .int .i64 t3] 26)
      have D8 := Lib.hid (D7.out.trans (bb.mono D7.out.size))
      have HZ8 := Lib.hid (HZ7.out.below bb)
      have HV8 := Lib.hid (HV7.out.below bb)
      have XB8 := Lib.hid (box_below XB7.out bb)
      obtain ⟨T26, hT26⟩ : ∃ T26, v7.heap.size = T26 := ⟨_, rfl⟩
      rw [hT26] at xb
      have YB8 := Lib.hid xb
      clear D7 HZ7 HV7 XB7 xb bb
      have x0 : (v7.alloc (.cells #[.slice X4 N3 xc4, .slice R4 N3 rc4, .slice C4 M3 cc4, .int .i64 t3] 26)).cell? ⟨T24, 0, none⟩ = some (.slice X3 N3 xc3) := box_cell XB8.out 0 _ rfl
      have x1 : (v7.alloc (.cells #[.slice X4 N3 xc4, .slice R4 N3 rc4, .slice C4 M3 cc4, .int .i64 t3] 26)).cell? ⟨T24, 1, none⟩ = some (.slice R3 N3 rc3) := box_cell XB8.out 1 _ rfl
      have x2 : (v7.alloc (.cells #[.slice X4 N3 xc4, .slice R4 N3 rc4, .slice C4 M3 cc4, .int .i64 t3] 26)).cell? ⟨T24, 2, none⟩ = some (.slice C3 M3 cc3) := box_cell XB8.out 2 _ rfl
      have x3 : (v7.alloc (.cells #[.slice X4 N3 xc4, .slice R4 N3 rc4, .slice C4 M3 cc4, .int .i64 t3] 26)).cell? ⟨T24, 3, none⟩ = some (.int .i64 t3) := box_cell XB8.out 3 _ rfl
      have y0 : (v7.alloc (.cells #[.slice X4 N3 xc4, .slice R4 N3 rc4, .slice C4 M3 cc4, .int .i64 t3] 26)).cell? ⟨T26, 0, none⟩ = some (.slice X4 N3 xc4) := box_cell YB8.out 0 _ rfl
      have y1 : (v7.alloc (.cells #[.slice X4 N3 xc4, .slice R4 N3 rc4, .slice C4 M3 cc4, .int .i64 t3] 26)).cell? ⟨T26, 1, none⟩ = some (.slice R4 N3 rc4) := box_cell YB8.out 1 _ rfl
      have y2 : (v7.alloc (.cells #[.slice X4 N3 xc4, .slice R4 N3 rc4, .slice C4 M3 cc4, .int .i64 t3] 26)).cell? ⟨T26, 2, none⟩ = some (.slice C4 M3 cc4) := box_cell YB8.out 2 _ rfl
      have y3 : (v7.alloc (.cells #[.slice X4 N3 xc4, .slice R4 N3 rc4, .slice C4 M3 cc4, .int .i64 t3] 26)).cell? ⟨T26, 3, none⟩ = some (.int .i64 t3) := box_cell YB8.out 3 _ rfl
      cases ok3
      case false =>
        clear HO3
        go_wp2_with fail
        clear hT26
        generalize v7.alloc (.cells #[.slice X4 N3 xc4, .slice R4 N3 rc4, .slice C4 M3 cc4, .int .i64 t3] 26) = v8 at *
        have E0 : (v8.cell? ⟨T24, 0, none⟩ = some (.slice X3 N3 xc3) ∧ v8.cell? ⟨T24, 1, none⟩ = some (.slice R3 N3 rc3) ∧ v8.cell? ⟨T24, 2, none⟩ = some (.slice C3 M3 cc3) ∧ v8.cell? ⟨T24, 3, none⟩ = some (.int .i64 t3) ∧ v8.cell? ⟨T26, 0, none⟩ = some (.slice X4 N3 xc4) ∧ v8.cell? ⟨T26, 1, none⟩ = some (.slice R4 N3 rc4) ∧ v8.cell? ⟨T26, 2, none⟩ = some (.slice C4 M3 cc4) ∧ v8.cell? ⟨T26, 3, none⟩ = some (.int .i64 t3)) := ⟨x0, x1, x2, x3, y0, y1, y2, y3⟩
        have HQ8 : Hid (∀ v9, Below v8.heap.size v8 v9 → (v9.cell? ⟨T24, 0, none⟩ = some (.slice X3 N3 xc3) ∧ v9.cell? ⟨T24, 1, none⟩ = some (.slice R3 N3 rc3) ∧ v9.cell? ⟨T24, 2, none⟩ = some (.slice C3 M3 cc3) ∧ v9.cell? ⟨T24, 3, none⟩ = some (.int .i64 t3) ∧ v9.cell? ⟨T26, 0, none⟩ = some (.slice X4 N3 xc4) ∧ v9.cell? ⟨T26, 1, none⟩ = some (.slice R4 N3 rc4) ∧ v9.cell? ⟨T26, 2, none⟩ = some (.slice C4 M3 cc4) ∧ v9.cell? ⟨T26, 3, none⟩ = some (.int .i64 t3))) := Lib.hid (fun v9 bv => by
          have hx := box_below XB8.out bv
          have hy := box_below YB8.out bv
          exact ⟨box_cell hx 0 _ rfl, box_cell hx 1 _ rfl, box_cell hx 2 _ rfl, box_cell hx 3 _ rfl, box_cell hy 0 _ rfl, box_cell hy 1 _ rfl, box_cell hy 2 _ rfl, box_cell hy 3 _ rfl⟩)
        clear XB8 YB8
        refine wp_region_held_drew (S := fun w' => (w'.cell? ⟨T24, 0, none⟩ = some (.slice X3 N3 xc3) ∧ w'.cell? ⟨T24, 1, none⟩ = some (.slice R3 N3 rc3) ∧ w'.cell? ⟨T24, 2, none⟩ = some (.slice C3 M3 cc3) ∧ w'.cell? ⟨T24, 3, none⟩ = some (.int .i64 t3) ∧ w'.cell? ⟨T26, 0, none⟩ = some (.slice X4 N3 xc4) ∧ w'.cell? ⟨T26, 1, none⟩ = some (.slice R4 N3 rc4) ∧ w'.cell? ⟨T26, 2, none⟩ = some (.slice C4 M3 cc4) ∧ w'.cell? ⟨T26, 3, none⟩ = some (.int .i64 t3))) (by kernel_rfl) (by exact E0) (fun hHeld => ?_)
        refine wpAnyH_takeD (i := 0) (d := 133) (v := ?_) rfl (by kernel_rfl) (by kernel_rfl) (by kernel_rfl) (by kernel_rfl) (fun _ _ _ h => h) (Or.inl ⟨by rfl, ?_⟩) (by assumption) ?_
        rotate_left
        · (intro w hSw; (try dsimp only at hSw); go_simp; try with_reducible rfl)
        simp only [Act.put, List.setIfInBounds_toArray, List.set_cons_zero, List.set_cons_succ]
        refine wpAnyH_takeD (i := 1) (d := 134) (v := ?_) rfl (by kernel_rfl) (by kernel_rfl) (by kernel_rfl) (by kernel_rfl) (fun _ _ _ h => h) (Or.inl ⟨by rfl, ?_⟩) (by assumption) ?_
        rotate_left
        · (intro w hSw; (try dsimp only at hSw); go_simp; try with_reducible rfl)
        simp only [Act.put, List.setIfInBounds_toArray, List.set_cons_zero, List.set_cons_succ]
        refine wpAnyH_takeD (i := 2) (d := 135) (v := ?_) rfl (by kernel_rfl) (by kernel_rfl) (by kernel_rfl) (by kernel_rfl) (fun _ _ _ h => h) (Or.inl ⟨by rfl, ?_⟩) (by assumption) ?_
        rotate_left
        · (intro w hSw; (try dsimp only at hSw); go_simp; try with_reducible rfl)
        simp only [Act.put, List.setIfInBounds_toArray, List.set_cons_zero, List.set_cons_succ]
        refine wpAnyH_takeD (i := 3) (d := 136) (v := ?_) rfl (by kernel_rfl) (by kernel_rfl) (by kernel_rfl) (by kernel_rfl) (fun _ _ _ h => h) (Or.inl ⟨by rfl, ?_⟩) (by assumption) ?_
        rotate_left
        · (intro w hSw; (try dsimp only at hSw); go_simp; try with_reducible rfl)
        simp only [Act.put, List.setIfInBounds_toArray, List.set_cons_zero, List.set_cons_succ]
        refine wpAnyH_takeD (i := 4) (d := 137) (v := ?_) rfl (by kernel_rfl) (by kernel_rfl) (by kernel_rfl) (by kernel_rfl) (fun _ _ _ h => h) (Or.inl ⟨by rfl, ?_⟩) (by assumption) ?_
        rotate_left
        · (intro w hSw; (try dsimp only at hSw); go_simp; try with_reducible rfl)
        simp only [Act.put, List.setIfInBounds_toArray, List.set_cons_zero, List.set_cons_succ]
        refine wpAnyH_takeD (i := 5) (d := 138) (v := ?_) rfl (by kernel_rfl) (by kernel_rfl) (by kernel_rfl) (by kernel_rfl) (fun _ _ _ h => h) (Or.inl ⟨by rfl, ?_⟩) (by assumption) ?_
        rotate_left
        · (intro w hSw; (try dsimp only at hSw); go_simp; try with_reducible rfl)
        simp only [Act.put, List.setIfInBounds_toArray, List.set_cons_zero, List.set_cons_succ]
        refine wpAnyH_ready (rs := [6]) (by kernel_rfl) (by simp) ?_
        refine AllReadyH.cons rfl (fun K hK => ?_) AllReadyH.nil
        go_simp
        (go_at_call 16; refine (pSameRounding_any X3 R3 C3 X4 R4 C4 N3 N3 M3 xc3 rc3 cc3 xc4 rc4 cc4 K3 rs3 cs3 t3 _ (by first | exact HZ8.out | exact HZ8.out.below ((Below.refl _ _).drew) | exact HZ8.out.below (below_drewN (Below.refl _ _) _)) (by first | exact HV8.out | exact HV8.out.below ((Below.refl _ _).drew) | exact HV8.out.below (below_drewN (Below.refl _ _) _)) (by omega) (by omega) (by omega) (fun j hj => by have := HK3.out j hj; omega)).mono ?_; rintro e v9 ⟨rfl, bv⟩; replace bv : Below v8.heap.size v8 v9 := (by first | exact bv | exact (Below.refl _ _).drew.trans bv | exact (below_drewN (Below.refl _ _) _).trans bv); have q9 := HQ8.out v9 bv; have D9 := Lib.hid (D8.out.trans (bv.mono D8.out.size)); have HR9 := Lib.hid (HZ8.out.below bv); clear bv)
        go_wp2_with fail
        refine hK.out _ _ ?_ (fun hHeld => ?_)
        · exact q9
        clear hK K
        try simp only [Act.put, List.setIfInBounds_toArray, List.set_cons_zero, List.set_cons_succ]
        refine wpAnyH_takeD (i := 7) (d := 140) (v := ?_) rfl (by kernel_rfl) (by kernel_rfl) (by kernel_rfl) (by kernel_rfl) (fun _ _ _ h => h) (Or.inl ⟨by rfl, ?_⟩) (by assumption) ?_
        rotate_left
        · (intro w hSw; (try dsimp only at hSw); go_simp; try with_reducible rfl)
        simp only [Act.put, List.setIfInBounds_toArray, List.set_cons_zero, List.set_cons_succ]
        refine wpAnyH_takeD (i := 8) (d := 141) (v := ?_) rfl (by kernel_rfl) (by kernel_rfl) (by kernel_rfl) (by kernel_rfl) (fun _ _ _ h => h) (Or.inl ⟨by rfl, ?_⟩) (by assumption) ?_
        rotate_left
        · (intro w hSw; (try dsimp only at hSw); go_simp; try with_reducible rfl)
        simp only [Act.put, List.setIfInBounds_toArray, List.set_cons_zero, List.set_cons_succ]
        refine wpAnyH_takeD (i := 9) (d := 142) (v := ?_) rfl (by kernel_rfl) (by kernel_rfl) (by kernel_rfl) (by kernel_rfl) (fun _ _ _ h => h) (Or.inl ⟨by rfl, ?_⟩) (by assumption) ?_
        rotate_left
        · (intro w hSw; (try dsimp only at hSw); go_simp; try with_reducible rfl)
        simp only [Act.put, List.setIfInBounds_toArray, List.set_cons_zero, List.set_cons_succ]
        refine wpAnyH_takeD (i := 10) (d := 143) (v := ?_) rfl (by kernel_rfl) (by kernel_rfl) (by kernel_rfl) (by kernel_rfl) (fun _ _ _ h => h) (Or.inl ⟨by rfl, ?_⟩) (by assumption) ?_
        rotate_left
        · (intro w hSw; (try dsimp only at hSw); go_simp; try with_reducible rfl)
        simp only [Act.put, List.setIfInBounds_toArray, List.set_cons_zero, List.set_cons_succ]
        refine wpAnyH_takeD (i := 11) (d := 144) (v := ?_) rfl (by kernel_rfl) (by kernel_rfl) (by kernel_rfl) (by kernel_rfl) (fun _ _ _ h => h) (Or.inl ⟨by rfl, ?_⟩) (by assumption) ?_
        rotate_left
        · (intro w hSw; (try dsimp only at hSw); go_simp; try with_reducible rfl)
        simp only [Act.put, List.setIfInBounds_toArray, List.set_cons_zero, List.set_cons_succ]
        refine wpAnyH_takeD (i := 12) (d := 145) (v := undef) rfl (by kernel_rfl) (by kernel_rfl) (by kernel_rfl) (by kernel_rfl) (fun _ _ _ h => h) (Or.inr ⟨by rfl, rfl⟩) (by assumption) ?_
        simp only [Act.put, List.setIfInBounds_toArray, List.set_cons_zero, List.set_cons_succ]
        refine wpAnyH_takeD (i := 13) (d := 146) (v := undef) rfl (by kernel_rfl) (by kernel_rfl) (by kernel_rfl) (by kernel_rfl) (fun _ _ _ h => h) (Or.inr ⟨by rfl, rfl⟩) (by assumption) ?_
        simp only [Act.put, List.setIfInBounds_toArray, List.set_cons_zero, List.set_cons_succ]
        refine wpAnyH_takeD (i := 14) (d := 147) (v := undef) rfl (by kernel_rfl) (by kernel_rfl) (by kernel_rfl) (by kernel_rfl) (fun _ _ _ h => h) (Or.inr ⟨by rfl, rfl⟩) (by assumption) ?_
        simp only [Act.put, List.setIfInBounds_toArray, List.set_cons_zero, List.set_cons_succ]
        refine wpAnyH_takeD (i := 15) (d := 148) (v := undef) rfl (by kernel_rfl) (by kernel_rfl) (by kernel_rfl) (by kernel_rfl) (fun _ _ _ h => h) (Or.inr ⟨by rfl, rfl⟩) (by assumption) ?_
        simp only [Act.put, List.setIfInBounds_toArray, List.set_cons_zero, List.set_cons_succ]
        refine wpAnyH_takeD (i := 16) (d := 149) (v := undef) rfl (by kernel_rfl) (by kernel_rfl) (by kernel_rfl) (by kernel_rfl) (fun _ _ _ h => h) (Or.inr ⟨by rfl, rfl⟩) (by assumption) ?_
        simp only [Act.put, List.setIfInBounds_toArray, List.set_cons_zero, List.set_cons_succ]
        refine wpAnyH_takeD (i := 17) (d := 150) (v := undef) rfl (by kernel_rfl) (by kernel_rfl) (by kernel_rfl) (by kernel_rfl) (fun _ _ _ h => h) (Or.inr ⟨by rfl, rfl⟩) (by assumption) ?_
        simp only [Act.put, List.setIfInBounds_toArray, List.set_cons_zero, List.set_cons_succ]
        refine wpAnyH_takeD (i := 18) (d := 151) (v := undef) rfl (by kernel_rfl) (by kernel_rfl) (by kernel_rfl) (by kernel_rfl) (fun _ _ _ h => h) (Or.inr ⟨by rfl, rfl⟩) (by assumption) ?_
        simp only [Act.put, List.setIfInBounds_toArray, List.set_cons_zero, List.set_cons_succ]
        refine wpAnyH_takeD (i := 19) (d := 152) (v := undef) rfl (by kernel_rfl) (by kernel_rfl) (by kernel_rfl) (by kernel_rfl) (fun _ _ _ h => h) (Or.inr ⟨by rfl, rfl⟩) (by assumption) ?_
        simp only [Act.put, List.setIfInBounds_toArray, List.set_cons_zero, List.set_cons_succ]
        refine wpAnyH_takeD (i := 20) (d := 153) (v := undef) rfl (by kernel_rfl) (by kernel_rfl) (by kernel_rfl) (by kernel_rfl) (fun _ _ _ h => h) (Or.inr ⟨by rfl, rfl⟩) (by assumption) ?_
        simp only [Act.put, List.setIfInBounds_toArray, List.set_cons_zero, List.set_cons_succ]
        refine wpAnyH_takeD (i := 21) (d := 154) (v := undef) rfl (by kernel_rfl) (by kernel_rfl) (by kernel_rfl) (by kernel_rfl) (fun _ _ _ h => h) (Or.inr ⟨by rfl, rfl⟩) (by assumption) ?_
        simp only [Act.put, List.setIfInBounds_toArray, List.set_cons_zero, List.set_cons_succ]
        refine wpAnyH_takeD (i := 22) (d := 155) (v := undef) rfl (by kernel_rfl) (by kernel_rfl) (by kernel_rfl) (by kernel_rfl) (fun _ _ _ h => h) (Or.inr ⟨by rfl, rfl⟩) (by assumption) ?_
        simp only [Act.put, List.setIfInBounds_toArray, List.set_cons_zero, List.set_cons_succ]
        refine wpAnyH_takeD (i := 23) (d := 156) (v := undef) rfl (by kernel_rfl) (by kernel_rfl) (by kernel_rfl) (by kernel_rfl) (fun _ _ _ h => h) (Or.inr ⟨by rfl, rfl⟩) (by assumption) ?_
        simp only [Act.put, List.setIfInBounds_toArray, List.set_cons_zero, List.set_cons_succ]
        refine wpAnyH_takeD (i := 24) (d := 157) (v := undef) rfl (by kernel_rfl) (by kernel_rfl) (by kernel_rfl) (by kernel_rfl) (fun _ _ _ h => h) (Or.inr ⟨by rfl, rfl⟩) (by assumption) ?_
        simp only [Act.put, List.setIfInBounds_toArray, List.set_cons_zero, List.set_cons_succ]
        refine wpAnyH_takeD (i := 25) (d := 158) (v := undef) rfl (by kernel_rfl) (by kernel_rfl) (by kernel_rfl) (by kernel_rfl) (fun _ _ _ h => h) (Or.inr ⟨by rfl, rfl⟩) (by assumption) ?_
        simp only [Act.put, List.setIfInBounds_toArray, List.set_cons_zero, List.set_cons_succ]
        refine wpAnyH_takeD (i := 26) (d := 159) (v := ?_) rfl (by kernel_rfl) (by kernel_rfl) (by kernel_rfl) (by kernel_rfl) (fun _ _ _ h => h) (Or.inl ⟨by rfl, ?_⟩) (by assumption) ?_
        rotate_left
        · (intro w hSw; (try dsimp only at hSw); go_simp; try with_reducible rfl)
        simp only [Act.put, List.setIfInBounds_toArray, List.set_cons_zero, List.set_cons_succ]
        refine wpAnyH_takeD (i := 27) (d := 160) (v := ?_) rfl (by kernel_rfl) (by kernel_rfl) (by kernel_rfl) (by kernel_rfl) (fun _ _ _ h => h) (Or.inl ⟨by rfl, ?_⟩) (by assumption) ?_
        rotate_left
        · (intro w hSw; (try dsimp only at hSw); go_simp; try with_reducible rfl)
        simp only [Act.put, List.setIfInBounds_toArray, List.set_cons_zero, List.set_cons_succ]
        refine wpAnyH_takeD (i := 28) (d := 4) (v := ?_) rfl (by kernel_rfl) (by kernel_rfl) (by kernel_rfl) (by kernel_rfl) (fun _ _ _ h => h) (Or.inl ⟨by rfl, ?_⟩) (by assumption) ?_
        rotate_left
        · (intro w hSw; (try dsimp only at hSw); go_simp; try with_reducible rfl)
        simp only [Act.put, List.setIfInBounds_toArray, List.set_cons_zero, List.set_cons_succ]
        refine wpAnyH_done (by kernel_rfl) ?_ _
        go_wp2
        go_ret
        exact ⟨rfl, D9.out⟩
      case true =>
        obtain ⟨f, g, rfl, rfl, hf, hg, hsf, hsg⟩ := HO3.out rfl
        have HSR : Hid (∀ W, Ints W R3 N3 (lst N3 f) → Calls Try.prog 23 #[.slice R3 N3 rc3] W fun e w' => e = .returned (.int .i64 t3) ∧ w' = W) := Lib.hid fun W h => (pSum_any R3 N3 rc3 f W h (by omega) hf).mono fun _ _ ⟨h1, h2⟩ => ⟨by rw [h1, hsf], h2⟩
        have HSC : Hid (∀ W, Ints W C3 M3 (lst M3 g) → Calls Try.prog 23 #[.slice C3 M3 cc3] W fun e w' => e = .returned (.int .i64 t3) ∧ w' = W) := Lib.hid fun W h => (pSum_any C3 M3 cc3 g W h (by omega) hg).mono fun _ _ ⟨h1, h2⟩ => ⟨by rw [h1, hsg], h2⟩
        clear hf hg hsf hsg HO3
        go_wp2_with fail
        clear hT26
        generalize v7.alloc (.cells #[.slice X4 N3 xc4, .slice R4 N3 rc4, .slice C4 M3 cc4, .int .i64 t3] 26) = v8 at *
        have E0 : (v8.cell? ⟨T24, 0, none⟩ = some (.slice X3 N3 xc3) ∧ v8.cell? ⟨T24, 1, none⟩ = some (.slice R3 N3 rc3) ∧ v8.cell? ⟨T24, 2, none⟩ = some (.slice C3 M3 cc3) ∧ v8.cell? ⟨T24, 3, none⟩ = some (.int .i64 t3) ∧ v8.cell? ⟨T26, 0, none⟩ = some (.slice X4 N3 xc4) ∧ v8.cell? ⟨T26, 1, none⟩ = some (.slice R4 N3 rc4) ∧ v8.cell? ⟨T26, 2, none⟩ = some (.slice C4 M3 cc4) ∧ v8.cell? ⟨T26, 3, none⟩ = some (.int .i64 t3)) := ⟨x0, x1, x2, x3, y0, y1, y2, y3⟩
        have HQ8 : Hid (∀ v9, Below v8.heap.size v8 v9 → (v9.cell? ⟨T24, 0, none⟩ = some (.slice X3 N3 xc3) ∧ v9.cell? ⟨T24, 1, none⟩ = some (.slice R3 N3 rc3) ∧ v9.cell? ⟨T24, 2, none⟩ = some (.slice C3 M3 cc3) ∧ v9.cell? ⟨T24, 3, none⟩ = some (.int .i64 t3) ∧ v9.cell? ⟨T26, 0, none⟩ = some (.slice X4 N3 xc4) ∧ v9.cell? ⟨T26, 1, none⟩ = some (.slice R4 N3 rc4) ∧ v9.cell? ⟨T26, 2, none⟩ = some (.slice C4 M3 cc4) ∧ v9.cell? ⟨T26, 3, none⟩ = some (.int .i64 t3))) := Lib.hid (fun v9 bv => by
          have hx := box_below XB8.out bv
          have hy := box_below YB8.out bv
          exact ⟨box_cell hx 0 _ rfl, box_cell hx 1 _ rfl, box_cell hx 2 _ rfl, box_cell hx 3 _ rfl, box_cell hy 0 _ rfl, box_cell hy 1 _ rfl, box_cell hy 2 _ rfl, box_cell hy 3 _ rfl⟩)
        clear XB8 YB8
        refine wp_region_held_drew (S := fun w' => (w'.cell? ⟨T24, 0, none⟩ = some (.slice X3 N3 xc3) ∧ w'.cell? ⟨T24, 1, none⟩ = some (.slice R3 N3 rc3) ∧ w'.cell? ⟨T24, 2, none⟩ = some (.slice C3 M3 cc3) ∧ w'.cell? ⟨T24, 3, none⟩ = some (.int .i64 t3) ∧ w'.cell? ⟨T26, 0, none⟩ = some (.slice X4 N3 xc4) ∧ w'.cell? ⟨T26, 1, none⟩ = some (.slice R4 N3 rc4) ∧ w'.cell? ⟨T26, 2, none⟩ = some (.slice C4 M3 cc4) ∧ w'.cell? ⟨T26, 3, none⟩ = some (.int .i64 t3))) (by kernel_rfl) (by exact E0) (fun hHeld => ?_)
        refine wpAnyH_takeD (i := 0) (d := 133) (v := ?_) rfl (by kernel_rfl) (by kernel_rfl) (by kernel_rfl) (by kernel_rfl) (fun _ _ _ h => h) (Or.inl ⟨by rfl, ?_⟩) (by assumption) ?_
        rotate_left
        · (intro w hSw; (try dsimp only at hSw); go_simp; try with_reducible rfl)
        simp only [Act.put, List.setIfInBounds_toArray, List.set_cons_zero, List.set_cons_succ]
        refine wpAnyH_takeD (i := 1) (d := 134) (v := ?_) rfl (by kernel_rfl) (by kernel_rfl) (by kernel_rfl) (by kernel_rfl) (fun _ _ _ h => h) (Or.inl ⟨by rfl, ?_⟩) (by assumption) ?_
        rotate_left
        · (intro w hSw; (try dsimp only at hSw); go_simp; try with_reducible rfl)
        simp only [Act.put, List.setIfInBounds_toArray, List.set_cons_zero, List.set_cons_succ]
        refine wpAnyH_takeD (i := 2) (d := 135) (v := ?_) rfl (by kernel_rfl) (by kernel_rfl) (by kernel_rfl) (by kernel_rfl) (fun _ _ _ h => h) (Or.inl ⟨by rfl, ?_⟩) (by assumption) ?_
        rotate_left
        · (intro w hSw; (try dsimp only at hSw); go_simp; try with_reducible rfl)
        simp only [Act.put, List.setIfInBounds_toArray, List.set_cons_zero, List.set_cons_succ]
        refine wpAnyH_takeD (i := 3) (d := 136) (v := ?_) rfl (by kernel_rfl) (by kernel_rfl) (by kernel_rfl) (by kernel_rfl) (fun _ _ _ h => h) (Or.inl ⟨by rfl, ?_⟩) (by assumption) ?_
        rotate_left
        · (intro w hSw; (try dsimp only at hSw); go_simp; try with_reducible rfl)
        simp only [Act.put, List.setIfInBounds_toArray, List.set_cons_zero, List.set_cons_succ]
        refine wpAnyH_takeD (i := 4) (d := 137) (v := ?_) rfl (by kernel_rfl) (by kernel_rfl) (by kernel_rfl) (by kernel_rfl) (fun _ _ _ h => h) (Or.inl ⟨by rfl, ?_⟩) (by assumption) ?_
        rotate_left
        · (intro w hSw; (try dsimp only at hSw); go_simp; try with_reducible rfl)
        simp only [Act.put, List.setIfInBounds_toArray, List.set_cons_zero, List.set_cons_succ]
        refine wpAnyH_takeD (i := 5) (d := 138) (v := ?_) rfl (by kernel_rfl) (by kernel_rfl) (by kernel_rfl) (by kernel_rfl) (fun _ _ _ h => h) (Or.inl ⟨by rfl, ?_⟩) (by assumption) ?_
        rotate_left
        · (intro w hSw; (try dsimp only at hSw); go_simp; try with_reducible rfl)
        simp only [Act.put, List.setIfInBounds_toArray, List.set_cons_zero, List.set_cons_succ]
        refine wpAnyH_ready (rs := [6]) (by kernel_rfl) (by simp) ?_
        refine AllReadyH.cons rfl (fun K hK => ?_) AllReadyH.nil
        go_simp
        (go_at_call 16; refine (pSameRounding_any X3 R3 C3 X4 R4 C4 N3 N3 M3 xc3 rc3 cc3 xc4 rc4 cc4 K3 _ _ t3 _ (by first | exact HZ8.out | exact HZ8.out.below ((Below.refl _ _).drew) | exact HZ8.out.below (below_drewN (Below.refl _ _) _)) (by first | exact HV8.out | exact HV8.out.below ((Below.refl _ _).drew) | exact HV8.out.below (below_drewN (Below.refl _ _) _)) (by omega) (by omega) (by omega) (fun j hj => by have := HK3.out j hj; omega)).mono ?_; rintro e v9 ⟨rfl, bv⟩; replace bv : Below v8.heap.size v8 v9 := (by first | exact bv | exact (Below.refl _ _).drew.trans bv | exact (below_drewN (Below.refl _ _) _).trans bv); have q9 := HQ8.out v9 bv; have D9 := Lib.hid (D8.out.trans (bv.mono D8.out.size)); have HR9 := Lib.hid (HZ8.out.below bv); clear bv)
        go_wp2_with fail
        refine hK.out _ _ ?_ (fun hHeld => ?_)
        · exact q9
        clear hK K
        try simp only [Act.put, List.setIfInBounds_toArray, List.set_cons_zero, List.set_cons_succ]
        refine wpAnyH_takeD (i := 7) (d := 140) (v := ?_) rfl (by kernel_rfl) (by kernel_rfl) (by kernel_rfl) (by kernel_rfl) (fun _ _ _ h => h) (Or.inl ⟨by rfl, ?_⟩) (by assumption) ?_
        rotate_left
        · (intro w hSw; (try dsimp only at hSw); go_simp; try with_reducible rfl)
        simp only [Act.put, List.setIfInBounds_toArray, List.set_cons_zero, List.set_cons_succ]
        refine wpAnyH_takeD (i := 8) (d := 141) (v := ?_) rfl (by kernel_rfl) (by kernel_rfl) (by kernel_rfl) (by kernel_rfl) (fun _ _ _ h => h) (Or.inl ⟨by rfl, ?_⟩) (by assumption) ?_
        rotate_left
        · (intro w hSw; (try dsimp only at hSw); go_simp; try with_reducible rfl)
        simp only [Act.put, List.setIfInBounds_toArray, List.set_cons_zero, List.set_cons_succ]
        refine wpAnyH_takeD (i := 9) (d := 142) (v := ?_) rfl (by kernel_rfl) (by kernel_rfl) (by kernel_rfl) (by kernel_rfl) (fun _ _ _ h => h) (Or.inl ⟨by rfl, ?_⟩) (by assumption) ?_
        rotate_left
        · (intro w hSw; (try dsimp only at hSw); go_simp; try with_reducible rfl)
        simp only [Act.put, List.setIfInBounds_toArray, List.set_cons_zero, List.set_cons_succ]
        refine wpAnyH_takeD (i := 10) (d := 143) (v := ?_) rfl (by kernel_rfl) (by kernel_rfl) (by kernel_rfl) (by kernel_rfl) (fun _ _ _ h => h) (Or.inl ⟨by rfl, ?_⟩) (by assumption) ?_
        rotate_left
        · (intro w hSw; (try dsimp only at hSw); go_simp; try with_reducible rfl)
        simp only [Act.put, List.setIfInBounds_toArray, List.set_cons_zero, List.set_cons_succ]
        refine wpAnyH_takeD (i := 11) (d := 144) (v := ?_) rfl (by kernel_rfl) (by kernel_rfl) (by kernel_rfl) (by kernel_rfl) (fun _ _ _ h => h) (Or.inl ⟨by rfl, ?_⟩) (by assumption) ?_
        rotate_left
        · (intro w hSw; (try dsimp only at hSw); go_simp; try with_reducible rfl)
        simp only [Act.put, List.setIfInBounds_toArray, List.set_cons_zero, List.set_cons_succ]
        refine wpAnyH_takeD (i := 12) (d := 145) (v := ?_) rfl (by kernel_rfl) (by kernel_rfl) (by kernel_rfl) (by kernel_rfl) (fun _ _ _ h => h) (Or.inl ⟨by rfl, ?_⟩) (by assumption) ?_
        rotate_left
        · (intro w hSw; (try dsimp only at hSw); go_simp; try with_reducible rfl)
        simp only [Act.put, List.setIfInBounds_toArray, List.set_cons_zero, List.set_cons_succ]
        refine wpAnyH_takeD (i := 13) (d := 146) (v := ?_) rfl (by kernel_rfl) (by kernel_rfl) (by kernel_rfl) (by kernel_rfl) (fun _ _ _ h => h) (Or.inl ⟨by rfl, ?_⟩) (by assumption) ?_
        rotate_left
        · (intro w hSw; (try dsimp only at hSw); go_simp; try with_reducible rfl)
        simp only [Act.put, List.setIfInBounds_toArray, List.set_cons_zero, List.set_cons_succ]
        refine wpAnyH_takeD (i := 15) (d := 148) (v := ?_) rfl (by kernel_rfl) (by kernel_rfl) (by kernel_rfl) (by kernel_rfl) (fun _ _ _ h => h) (Or.inl ⟨by rfl, ?_⟩) (by assumption) ?_
        rotate_left
        · (intro w hSw; (try dsimp only at hSw); go_simp; try with_reducible rfl)
        simp only [Act.put, List.setIfInBounds_toArray, List.set_cons_zero, List.set_cons_succ]
        refine wpAnyH_takeD (i := 16) (d := 149) (v := ?_) rfl (by kernel_rfl) (by kernel_rfl) (by kernel_rfl) (by kernel_rfl) (fun _ _ _ h => h) (Or.inl ⟨by rfl, ?_⟩) (by assumption) ?_
        rotate_left
        · (intro w hSw; (try dsimp only at hSw); go_simp; try with_reducible rfl)
        simp only [Act.put, List.setIfInBounds_toArray, List.set_cons_zero, List.set_cons_succ]
        refine wpAnyH_ready (rs := [14]) (by kernel_rfl) (by simp) ?_
        refine AllReadyH.cons rfl (fun K hK => ?_) AllReadyH.nil
        go_simp
        (go_at_call 23; refine (HSR.out _ HR9.out.r).mono ?_; rintro e v10 ⟨rfl, rfl⟩)
        go_wp2_with fail
        refine hK.out _ _ ?_ (fun hHeld => ?_)
        · exact q9
        clear hK K
        try simp only [Act.put, List.setIfInBounds_toArray, List.set_cons_zero, List.set_cons_succ]
        refine wpAnyH_takeD (i := 17) (d := 150) (v := ?_) rfl (by kernel_rfl) (by kernel_rfl) (by kernel_rfl) (by kernel_rfl) (fun _ _ _ h => h) (Or.inl ⟨by rfl, ?_⟩) (by assumption) ?_
        rotate_left
        · (intro w hSw; (try dsimp only at hSw); go_simp; try with_reducible rfl)
        simp only [Act.put, List.setIfInBounds_toArray, List.set_cons_zero, List.set_cons_succ]
        refine wpAnyH_takeD (i := 18) (d := 151) (v := ?_) rfl (by kernel_rfl) (by kernel_rfl) (by kernel_rfl) (by kernel_rfl) (fun _ _ _ h => h) (Or.inl ⟨by rfl, ?_⟩) (by assumption) ?_
        rotate_left
        · (intro w hSw; (try dsimp only at hSw); go_simp; try with_reducible rfl)
        simp only [Act.put, List.setIfInBounds_toArray, List.set_cons_zero, List.set_cons_succ]
        refine wpAnyH_takeD (i := 19) (d := 152) (v := ?_) rfl (by kernel_rfl) (by kernel_rfl) (by kernel_rfl) (by kernel_rfl) (fun _ _ _ h => h) (Or.inl ⟨by rfl, ?_⟩) (by assumption) ?_
        rotate_left
        · (intro w hSw; (try dsimp only at hSw); go_simp; try with_reducible rfl)
        simp only [Act.put, List.setIfInBounds_toArray, List.set_cons_zero, List.set_cons_succ]
        refine wpAnyH_takeD (i := 20) (d := 153) (v := ?_) rfl (by kernel_rfl) (by kernel_rfl) (by kernel_rfl) (by kernel_rfl) (fun _ _ _ h => h) (Or.inl ⟨by rfl, ?_⟩) (by assumption) ?_
        rotate_left
        · (intro w hSw; (try dsimp only at hSw); go_simp; try with_reducible rfl)
        simp only [Act.put, List.setIfInBounds_toArray, List.set_cons_zero, List.set_cons_succ]
        refine wpAnyH_takeD (i := 22) (d := 155) (v := ?_) rfl (by kernel_rfl) (by kernel_rfl) (by kernel_rfl) (by kernel_rfl) (fun _ _ _ h => h) (Or.inl ⟨by rfl, ?_⟩) (by assumption) ?_
        rotate_left
        · (intro w hSw; (try dsimp only at hSw); go_simp; try with_reducible rfl)
        simp only [Act.put, List.setIfInBounds_toArray, List.set_cons_zero, List.set_cons_succ]
        refine wpAnyH_takeD (i := 23) (d := 156) (v := ?_) rfl (by kernel_rfl) (by kernel_rfl) (by kernel_rfl) (by kernel_rfl) (fun _ _ _ h => h) (Or.inl ⟨by rfl, ?_⟩) (by assumption) ?_
        rotate_left
        · (intro w hSw; (try dsimp only at hSw); go_simp; try with_reducible rfl)
        simp only [Act.put, List.setIfInBounds_toArray, List.set_cons_zero, List.set_cons_succ]
        refine wpAnyH_ready (rs := [21]) (by kernel_rfl) (by simp) ?_
        refine AllReadyH.cons rfl (fun K hK => ?_) AllReadyH.nil
        go_simp
        (go_at_call 23; refine (HSC.out _ HR9.out.c).mono ?_; rintro e v10 ⟨rfl, rfl⟩)
        go_wp2_with fail
        refine hK.out _ _ ?_ (fun hHeld => ?_)
        · exact q9
        clear hK K
        try simp only [Act.put, List.setIfInBounds_toArray, List.set_cons_zero, List.set_cons_succ]
        refine wpAnyH_takeD (i := 24) (d := 157) (v := ?_) rfl (by kernel_rfl) (by kernel_rfl) (by kernel_rfl) (by kernel_rfl) (fun _ _ _ h => h) (Or.inl ⟨by rfl, ?_⟩) (by assumption) ?_
        rotate_left
        · (intro w hSw; (try dsimp only at hSw); go_simp; try with_reducible rfl)
        simp only [Act.put, List.setIfInBounds_toArray, List.set_cons_zero, List.set_cons_succ]
        refine wpAnyH_takeD (i := 25) (d := 158) (v := ?_) rfl (by kernel_rfl) (by kernel_rfl) (by kernel_rfl) (by kernel_rfl) (fun _ _ _ h => h) (Or.inl ⟨by rfl, ?_⟩) (by assumption) ?_
        rotate_left
        · (intro w hSw; (try dsimp only at hSw); go_simp; try with_reducible rfl)
        simp only [Act.put, List.setIfInBounds_toArray, List.set_cons_zero, List.set_cons_succ]
        refine wpAnyH_takeD (i := 26) (d := 159) (v := ?_) rfl (by kernel_rfl) (by kernel_rfl) (by kernel_rfl) (by kernel_rfl) (fun _ _ _ h => h) (Or.inl ⟨by rfl, ?_⟩) (by assumption) ?_
        rotate_left
        · (intro w hSw; (try dsimp only at hSw); go_simp; try with_reducible rfl)
        simp only [Act.put, List.setIfInBounds_toArray, List.set_cons_zero, List.set_cons_succ]
        refine wpAnyH_takeD (i := 27) (d := 160) (v := ?_) rfl (by kernel_rfl) (by kernel_rfl) (by kernel_rfl) (by kernel_rfl) (fun _ _ _ h => h) (Or.inl ⟨by rfl, ?_⟩) (by assumption) ?_
        rotate_left
        · (intro w hSw; (try dsimp only at hSw); go_simp; try with_reducible rfl)
        simp only [Act.put, List.setIfInBounds_toArray, List.set_cons_zero, List.set_cons_succ]
        refine wpAnyH_takeD (i := 28) (d := 4) (v := ?_) rfl (by kernel_rfl) (by kernel_rfl) (by kernel_rfl) (by kernel_rfl) (fun _ _ _ h => h) (Or.inl ⟨by rfl, ?_⟩) (by assumption) ?_
        rotate_left
        · (intro w hSw; (try dsimp only at hSw); go_simp; try with_reducible rfl)
        simp only [Act.put, List.setIfInBounds_toArray, List.set_cons_zero, List.set_cons_succ]
        refine wpAnyH_done (by kernel_rfl) ?_ _
        go_wp2
        go_ret
        exact ⟨rfl, D9.out⟩
end Go.Proofs.Ytcjmapdeopffcaa
