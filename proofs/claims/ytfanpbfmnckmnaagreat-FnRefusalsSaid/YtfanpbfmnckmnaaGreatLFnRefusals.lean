/- The walk of the law FnRefusals, printed by gref.py. -/
import Derived.Test.YtfanpbfmnckmnaaGreatYv
import Derived.Test.YtfanpbfmnckmnaaGreatYq
import Derived.Test.YtfanpbfmnckmnaaGreatYn
import Derived.Test.YtfanpbfmnckmnaaGreatZs
import Derived.Deep.CutBlock
namespace Go.Proofs.YtfanpbfmnckmnaaGreat
open Go.RowKit

set_option maxRecDepth 100000 in
set_option maxHeartbeats 4000000 in
theorem walk_FnRefusals (a0 : Option Addr) (n0 c0 : Nat) (z0 : List Int) (a1 : Option Addr) (n1 c1 : Nat) (z1 : List Int) (w : World) (r0 : Bytes w a0 n0 z0) (m0 : n0 ≤ maxLen) (f0 : ∀ x ∈ z0, (Lit.int .u8 x).wf = true) (r1 : Bytes w a1 n1 z1) (m1 : n1 ≤ maxLen) (f1 : ∀ x ∈ z1, (Lit.int .u8 x).wf = true) :
    Calls Tryz.prog 8 #[.slice a0 n0 c0, .slice a1 n1 c1] w fun e w' => e = .returned (.bool true) ∧ Below w.heap.size w w' := by
  have hb0 := Lib.hid (byt_of r0 f0)
  have hb1 := Lib.hid (byt_of r1 f1)
  have B0 := Below.refl w.heap.size w
  unfold maxLen at m0 m1
  clear r0 f0 r1 f1
  go_enter Tryz.func8, Tryz.ntmps8
  go_wp2_with fail
  · go_ret
    exact ⟨rfl, B0⟩
  rename (wrap64 _ ≤ _) => hbig
  clear hbig
  have K1 := (drawOpenTables_any a0 n0 c0 w (hb0.out.below B0) (by omega)).mono fun _ _ h => h.law
  refine K1.mono ?_
  clear K1
  rintro e w1 ⟨P, A, Z, Y, Q, g, cg, n, c, m, cm, p, cp, q, cq, D, rfl, hX, hp, hq, b1⟩
  have B1 := B0.trans (b1.mono B0.size)
  have S1 := b1.size
  clear b1 B0
  obtain ⟨OL, hOL⟩ : ∃ x, opV D = x := ⟨_, rfl⟩
  obtain ⟨OB, hOB⟩ : ∃ x, svB D = x := ⟨_, rfl⟩
  have HOL := Lib.hid hOL
  have HOB := Lib.hid hOB
  clear hOL hOB
  have b2 := below_new w1 (.cells #[.slice P g cg, .slice A n c, .slice Z m cm, .slice Y p cp, .int .i64 D.cost.a, .int .i64 D.cost.b, .int .i64 D.cost.c, .int .i64 D.cost.d, .int .i64 D.bud.a, .int .i64 D.bud.b, .int .i64 D.bud.c, .int .i64 D.bud.d, .int .i64 D.floor, .slice Q q cq] 44)
  have xx := box_new w1 #[.slice P g cg, .slice A n c, .slice Z m cm, .slice Y p cp, .int .i64 D.cost.a, .int .i64 D.cost.b, .int .i64 D.cost.c, .int .i64 D.cost.d, .int .i64 D.bud.a, .int .i64 D.bud.b, .int .i64 D.bud.c, .int .i64 D.bud.d, .int .i64 D.floor, .slice Q q cq] 44
  obtain ⟨gx, hgx⟩ : ∃ g, w1.heap.size = g := ⟨_, rfl⟩
  go_wp2_with fail
  generalize w1.alloc (.cells #[.slice P g cg, .slice A n c, .slice Z m cm, .slice Y p cp, .int .i64 D.cost.a, .int .i64 D.cost.b, .int .i64 D.cost.c, .int .i64 D.cost.d, .int .i64 D.bud.a, .int .i64 D.bud.b, .int .i64 D.bud.c, .int .i64 D.bud.d, .int .i64 D.floor, .slice Q q cq] 44) = w2 at *
  have B2 := B1.trans (b2.mono B1.size)
  replace hX := hX.below b2
  have S2 := b2.size
  clear b2 B1
  rw [hgx] at xx
  try rw [hgx]
  clear hgx
  have K3 := implOpenTables_law P A Z Y Q g cg n c m cm p cp q cq D w2 hX
  rw [HOL.out, HOB.out] at K3
  refine K3.mono ?_
  clear K3
  rintro e w3 ⟨Ai, ci, rfl, oi, b3⟩
  have B3 := B2.trans (b3.mono B2.size)
  replace xx := box_below xx b3
  replace hX := hX.below b3
  have S3 := b3.size
  clear b3 B2
  have cx0 := box_cell xx 0 _ rfl
  have cx1 := box_cell xx 1 _ rfl
  have cx2 := box_cell xx 2 _ rfl
  have cx3 := box_cell xx 3 _ rfl
  have cx4 := box_cell xx 4 _ rfl
  have cx5 := box_cell xx 5 _ rfl
  have cx6 := box_cell xx 6 _ rfl
  have cx7 := box_cell xx 7 _ rfl
  have cx8 := box_cell xx 8 _ rfl
  have cx9 := box_cell xx 9 _ rfl
  have cx10 := box_cell xx 10 _ rfl
  have cx11 := box_cell xx 11 _ rfl
  have cx12 := box_cell xx 12 _ rfl
  have cx13 := box_cell xx 13 _ rfl
  have lx := lt_of_block xx
  go_wp2_with fail
  clear cx0 cx1 cx2 cx3 cx4 cx5 cx6 cx7 cx8 cx9 cx10 cx11 cx12 cx13 lx
  have K4 := specOpenTables_law P A Z Y Q g cg n c m cm p cp q cq D w3 hX
  rw [HOL.out, HOB.out] at K4
  refine K4.mono ?_
  clear K4
  rintro e w4 ⟨As, cs, rfl, os, b4⟩
  have B4 := B3.trans (b4.mono B3.size)
  replace xx := box_below xx b4
  replace hX := hX.below b4
  replace oi := oi.below b4
  have S4 := b4.size
  clear b4 B3
  have cx0 := box_cell xx 0 _ rfl
  have cx1 := box_cell xx 1 _ rfl
  have cx2 := box_cell xx 2 _ rfl
  have cx3 := box_cell xx 3 _ rfl
  have cx4 := box_cell xx 4 _ rfl
  have cx5 := box_cell xx 5 _ rfl
  have cx6 := box_cell xx 6 _ rfl
  have cx7 := box_cell xx 7 _ rfl
  have cx8 := box_cell xx 8 _ rfl
  have cx9 := box_cell xx 9 _ rfl
  have cx10 := box_cell xx 10 _ rfl
  have cx11 := box_cell xx 11 _ rfl
  have cx12 := box_cell xx 12 _ rfl
  have cx13 := box_cell xx 13 _ rfl
  have lx := lt_of_block xx
  go_wp2_with fail
  clear cx0 cx1 cx2 cx3 cx4 cx5 cx6 cx7 cx8 cx9 cx10 cx11 cx12 cx13 lx
  have K5 := (drawLeastGap_any a1 n1 c1 w4 (hb1.out.below B4) (by omega)).mono fun _ _ h => h.law
  refine K5.mono ?_
  clear K5
  rintro e w5 ⟨P2, A2, Z2, Y2, Q2, g2, cg2, n2, c2, m2, cm2, p2, cp2, q2, cq2, D2, V, tm, td, U, tk, te, t, rfl, hY, hT, hp2, hq2, b5⟩
  have B5 := B4.trans (b5.mono B4.size)
  replace xx := box_below xx b5
  replace hX := hX.below b5
  replace oi := oi.below b5
  replace os := os.below b5
  have S5 := b5.size
  clear b5 B4
  obtain ⟨GP, hGP⟩ : ∃ x, gapL D2 t = x := ⟨_, rfl⟩
  obtain ⟨GB, hGB⟩ : ∃ x, gapB D2 t = x := ⟨_, rfl⟩
  have HGP := Lib.hid hGP
  have HGB := Lib.hid hGB
  clear hGP hGB
  obtain ⟨b6, xy, xt⟩ := box_two w5 #[.slice P2 g2 cg2, .slice A2 n2 c2, .slice Z2 m2 cm2, .slice Y2 p2 cp2, .int .i64 D2.cost.a, .int .i64 D2.cost.b, .int .i64 D2.cost.c, .int .i64 D2.cost.d, .int .i64 D2.bud.a, .int .i64 D2.bud.b, .int .i64 D2.bud.c, .int .i64 D2.bud.d, .int .i64 D2.floor, .slice Q2 q2 cq2] #[.int .i64 t.lv, .slice V tm td, .slice U tk te, .int .i64 t.sum] 44 56
  obtain ⟨gy, hgy⟩ : ∃ g, w5.heap.size = g := ⟨_, rfl⟩
  have ex0 := box_cell (box_below xx b6) 0 _ rfl
  have ex1 := box_cell (box_below xx b6) 1 _ rfl
  have ex2 := box_cell (box_below xx b6) 2 _ rfl
  have ex3 := box_cell (box_below xx b6) 3 _ rfl
  have ex4 := box_cell (box_below xx b6) 4 _ rfl
  have ex5 := box_cell (box_below xx b6) 5 _ rfl
  have ex6 := box_cell (box_below xx b6) 6 _ rfl
  have ex7 := box_cell (box_below xx b6) 7 _ rfl
  have ex8 := box_cell (box_below xx b6) 8 _ rfl
  have ex9 := box_cell (box_below xx b6) 9 _ rfl
  have ex10 := box_cell (box_below xx b6) 10 _ rfl
  have ex11 := box_cell (box_below xx b6) 11 _ rfl
  have ex12 := box_cell (box_below xx b6) 12 _ rfl
  have ex13 := box_cell (box_below xx b6) 13 _ rfl
  have cx0 := box_cell xx 0 _ rfl
  have cx1 := box_cell xx 1 _ rfl
  have cx2 := box_cell xx 2 _ rfl
  have cx3 := box_cell xx 3 _ rfl
  have cx4 := box_cell xx 4 _ rfl
  have cx5 := box_cell xx 5 _ rfl
  have cx6 := box_cell xx 6 _ rfl
  have cx7 := box_cell xx 7 _ rfl
  have cx8 := box_cell xx 8 _ rfl
  have cx9 := box_cell xx 9 _ rfl
  have cx10 := box_cell xx 10 _ rfl
  have cx11 := box_cell xx 11 _ rfl
  have cx12 := box_cell xx 12 _ rfl
  have cx13 := box_cell xx 13 _ rfl
  have lx := lt_of_block xx
  go_wp2_with fail
  clear cx0 cx1 cx2 cx3 cx4 cx5 cx6 cx7 cx8 cx9 cx10 cx11 cx12 cx13 lx
  clear ex0 ex1 ex2 ex3 ex4 ex5 ex6 ex7 ex8 ex9 ex10 ex11 ex12 ex13
  generalize (w5.alloc (.cells #[.slice P2 g2 cg2, .slice A2 n2 c2, .slice Z2 m2 cm2, .slice Y2 p2 cp2, .int .i64 D2.cost.a, .int .i64 D2.cost.b, .int .i64 D2.cost.c, .int .i64 D2.cost.d, .int .i64 D2.bud.a, .int .i64 D2.bud.b, .int .i64 D2.bud.c, .int .i64 D2.bud.d, .int .i64 D2.floor, .slice Q2 q2 cq2] 44)).alloc (.cells #[.int .i64 t.lv, .slice V tm td, .slice U tk te, .int .i64 t.sum] 56) = w6 at *
  have B6 := B5.trans (b6.mono B5.size)
  replace xx := box_below xx b6
  replace hX := hX.below b6
  replace oi := oi.below b6
  replace os := os.below b6
  replace hY := hY.below b6
  replace hT := hT.below b6
  have S6 := b6.size
  clear b6 B5
  rw [hgy] at xy xt
  try rw [hgy]
  clear hgy
  have K7 := implLeastGap_law P2 A2 Z2 Y2 Q2 g2 cg2 n2 c2 m2 cm2 p2 cp2 q2 cq2 D2 V U tm td tk te t w6 hY hT
  refine K7.mono ?_
  clear K7
  rintro e w7 ⟨rfl, b7⟩
  rw [HGP.out, HGB.out]
  have B7 := B6.trans (b7.mono B6.size)
  replace xx := box_below xx b7
  replace xy := box_below xy b7
  replace xt := box_below xt b7
  replace hX := hX.below b7
  replace oi := oi.below b7
  replace os := os.below b7
  replace hY := hY.below b7
  replace hT := hT.below b7
  have S7 := b7.size
  clear b7 B6
  have cx0 := box_cell xx 0 _ rfl
  have cx1 := box_cell xx 1 _ rfl
  have cx2 := box_cell xx 2 _ rfl
  have cx3 := box_cell xx 3 _ rfl
  have cx4 := box_cell xx 4 _ rfl
  have cx5 := box_cell xx 5 _ rfl
  have cx6 := box_cell xx 6 _ rfl
  have cx7 := box_cell xx 7 _ rfl
  have cx8 := box_cell xx 8 _ rfl
  have cx9 := box_cell xx 9 _ rfl
  have cx10 := box_cell xx 10 _ rfl
  have cx11 := box_cell xx 11 _ rfl
  have cx12 := box_cell xx 12 _ rfl
  have cx13 := box_cell xx 13 _ rfl
  have lx := lt_of_block xx
  have cy0 := box_cell xy 0 _ rfl
  have cy1 := box_cell xy 1 _ rfl
  have cy2 := box_cell xy 2 _ rfl
  have cy3 := box_cell xy 3 _ rfl
  have cy4 := box_cell xy 4 _ rfl
  have cy5 := box_cell xy 5 _ rfl
  have cy6 := box_cell xy 6 _ rfl
  have cy7 := box_cell xy 7 _ rfl
  have cy8 := box_cell xy 8 _ rfl
  have cy9 := box_cell xy 9 _ rfl
  have cy10 := box_cell xy 10 _ rfl
  have cy11 := box_cell xy 11 _ rfl
  have cy12 := box_cell xy 12 _ rfl
  have cy13 := box_cell xy 13 _ rfl
  have ly := lt_of_block xy
  have ct0 := box_cell xt 0 _ rfl
  have ct1 := box_cell xt 1 _ rfl
  have ct2 := box_cell xt 2 _ rfl
  have ct3 := box_cell xt 3 _ rfl
  have lt := lt_of_block xt
  go_wp2_with fail
  clear cx0 cx1 cx2 cx3 cx4 cx5 cx6 cx7 cx8 cx9 cx10 cx11 cx12 cx13 lx cy0 cy1 cy2 cy3 cy4 cy5 cy6 cy7 cy8 cy9 cy10 cy11 cy12 cy13 ly ct0 ct1 ct2 ct3 lt
  have K8 := specLeastGap_law P2 A2 Z2 Y2 Q2 g2 cg2 n2 c2 m2 cm2 p2 cp2 q2 cq2 D2 V U tm td tk te t w7 hY hT
  refine K8.mono ?_
  clear K8
  rintro e w8 ⟨rfl, b8⟩
  rw [HGP.out, HGB.out]
  have B8 := B7.trans (b8.mono B7.size)
  replace xx := box_below xx b8
  replace xy := box_below xy b8
  replace xt := box_below xt b8
  replace hX := hX.below b8
  replace oi := oi.below b8
  replace os := os.below b8
  replace hY := hY.below b8
  replace hT := hT.below b8
  have S8 := b8.size
  clear b8 B7
  have cx0 := box_cell xx 0 _ rfl
  have cx1 := box_cell xx 1 _ rfl
  have cx2 := box_cell xx 2 _ rfl
  have cx3 := box_cell xx 3 _ rfl
  have cx4 := box_cell xx 4 _ rfl
  have cx5 := box_cell xx 5 _ rfl
  have cx6 := box_cell xx 6 _ rfl
  have cx7 := box_cell xx 7 _ rfl
  have cx8 := box_cell xx 8 _ rfl
  have cx9 := box_cell xx 9 _ rfl
  have cx10 := box_cell xx 10 _ rfl
  have cx11 := box_cell xx 11 _ rfl
  have cx12 := box_cell xx 12 _ rfl
  have cx13 := box_cell xx 13 _ rfl
  have lx := lt_of_block xx
  have cy0 := box_cell xy 0 _ rfl
  have cy1 := box_cell xy 1 _ rfl
  have cy2 := box_cell xy 2 _ rfl
  have cy3 := box_cell xy 3 _ rfl
  have cy4 := box_cell xy 4 _ rfl
  have cy5 := box_cell xy 5 _ rfl
  have cy6 := box_cell xy 6 _ rfl
  have cy7 := box_cell xy 7 _ rfl
  have cy8 := box_cell xy 8 _ rfl
  have cy9 := box_cell xy 9 _ rfl
  have cy10 := box_cell xy 10 _ rfl
  have cy11 := box_cell xy 11 _ rfl
  have cy12 := box_cell xy 12 _ rfl
  have cy13 := box_cell xy 13 _ rfl
  have ly := lt_of_block xy
  have ct0 := box_cell xt 0 _ rfl
  have ct1 := box_cell xt 1 _ rfl
  have ct2 := box_cell xt 2 _ rfl
  have ct3 := box_cell xt 3 _ rfl
  have lt := lt_of_block xt
  go_wp2_with fail
  clear cx0 cx1 cx2 cx3 cx4 cx5 cx6 cx7 cx8 cx9 cx10 cx11 cx12 cx13 lx cy0 cy1 cy2 cy3 cy4 cy5 cy6 cy7 cy8 cy9 cy10 cy11 cy12 cy13 ly ct0 ct1 ct2 ct3 lt
  have K9 := drawFewestIn_any a1 n1 c1 w8 (hb1.out.below B8) (by omega)
  refine K9.mono ?_
  clear K9
  rintro e w9 ⟨Af, mf, df, xf, rfl, hmf, of, b9⟩
  have B9 := B8.trans (b9.mono B8.size)
  replace xx := box_below xx b9
  replace xy := box_below xy b9
  replace xt := box_below xt b9
  replace hX := hX.below b9
  replace oi := oi.below b9
  replace os := os.below b9
  replace hY := hY.below b9
  replace hT := hT.below b9
  have S9 := b9.size
  clear b9 B8
  have cx0 := box_cell xx 0 _ rfl
  have cx1 := box_cell xx 1 _ rfl
  have cx2 := box_cell xx 2 _ rfl
  have cx3 := box_cell xx 3 _ rfl
  have cx4 := box_cell xx 4 _ rfl
  have cx5 := box_cell xx 5 _ rfl
  have cx6 := box_cell xx 6 _ rfl
  have cx7 := box_cell xx 7 _ rfl
  have cx8 := box_cell xx 8 _ rfl
  have cx9 := box_cell xx 9 _ rfl
  have cx10 := box_cell xx 10 _ rfl
  have cx11 := box_cell xx 11 _ rfl
  have cx12 := box_cell xx 12 _ rfl
  have cx13 := box_cell xx 13 _ rfl
  have lx := lt_of_block xx
  have cy0 := box_cell xy 0 _ rfl
  have cy1 := box_cell xy 1 _ rfl
  have cy2 := box_cell xy 2 _ rfl
  have cy3 := box_cell xy 3 _ rfl
  have cy4 := box_cell xy 4 _ rfl
  have cy5 := box_cell xy 5 _ rfl
  have cy6 := box_cell xy 6 _ rfl
  have cy7 := box_cell xy 7 _ rfl
  have cy8 := box_cell xy 8 _ rfl
  have cy9 := box_cell xy 9 _ rfl
  have cy10 := box_cell xy 10 _ rfl
  have cy11 := box_cell xy 11 _ rfl
  have cy12 := box_cell xy 12 _ rfl
  have cy13 := box_cell xy 13 _ rfl
  have ly := lt_of_block xy
  have ct0 := box_cell xt 0 _ rfl
  have ct1 := box_cell xt 1 _ rfl
  have ct2 := box_cell xt 2 _ rfl
  have ct3 := box_cell xt 3 _ rfl
  have lt := lt_of_block xt
  go_wp2_with fail
  clear cx0 cx1 cx2 cx3 cx4 cx5 cx6 cx7 cx8 cx9 cx10 cx11 cx12 cx13 lx cy0 cy1 cy2 cy3 cy4 cy5 cy6 cy7 cy8 cy9 cy10 cy11 cy12 cy13 ly ct0 ct1 ct2 ct3 lt
  obtain ⟨FP, hFP⟩ : ∃ x, fewV xf = x := ⟨_, rfl⟩
  obtain ⟨FB, hFB⟩ : ∃ x, fewB xf = x := ⟨_, rfl⟩
  have HFP := Lib.hid hFP
  have HFB := Lib.hid hFB
  clear hFP hFB
  have K10 := implFewestIn_law Af mf df xf w9 of.ints (by omega)
  refine K10.mono ?_
  clear K10
  rintro e w10 ⟨rfl, b10⟩
  rw [HFP.out, HFB.out]
  have B10 := B9.trans (b10.mono B9.size)
  replace xx := box_below xx b10
  replace xy := box_below xy b10
  replace xt := box_below xt b10
  replace hX := hX.below b10
  replace oi := oi.below b10
  replace os := os.below b10
  replace hY := hY.below b10
  replace hT := hT.below b10
  replace of := of.below b10
  have S10 := b10.size
  clear b10 B9
  have cx0 := box_cell xx 0 _ rfl
  have cx1 := box_cell xx 1 _ rfl
  have cx2 := box_cell xx 2 _ rfl
  have cx3 := box_cell xx 3 _ rfl
  have cx4 := box_cell xx 4 _ rfl
  have cx5 := box_cell xx 5 _ rfl
  have cx6 := box_cell xx 6 _ rfl
  have cx7 := box_cell xx 7 _ rfl
  have cx8 := box_cell xx 8 _ rfl
  have cx9 := box_cell xx 9 _ rfl
  have cx10 := box_cell xx 10 _ rfl
  have cx11 := box_cell xx 11 _ rfl
  have cx12 := box_cell xx 12 _ rfl
  have cx13 := box_cell xx 13 _ rfl
  have lx := lt_of_block xx
  have cy0 := box_cell xy 0 _ rfl
  have cy1 := box_cell xy 1 _ rfl
  have cy2 := box_cell xy 2 _ rfl
  have cy3 := box_cell xy 3 _ rfl
  have cy4 := box_cell xy 4 _ rfl
  have cy5 := box_cell xy 5 _ rfl
  have cy6 := box_cell xy 6 _ rfl
  have cy7 := box_cell xy 7 _ rfl
  have cy8 := box_cell xy 8 _ rfl
  have cy9 := box_cell xy 9 _ rfl
  have cy10 := box_cell xy 10 _ rfl
  have cy11 := box_cell xy 11 _ rfl
  have cy12 := box_cell xy 12 _ rfl
  have cy13 := box_cell xy 13 _ rfl
  have ly := lt_of_block xy
  have ct0 := box_cell xt 0 _ rfl
  have ct1 := box_cell xt 1 _ rfl
  have ct2 := box_cell xt 2 _ rfl
  have ct3 := box_cell xt 3 _ rfl
  have lt := lt_of_block xt
  go_wp2_with fail
  clear cx0 cx1 cx2 cx3 cx4 cx5 cx6 cx7 cx8 cx9 cx10 cx11 cx12 cx13 lx cy0 cy1 cy2 cy3 cy4 cy5 cy6 cy7 cy8 cy9 cy10 cy11 cy12 cy13 ly ct0 ct1 ct2 ct3 lt
  have K11 := specFewestIn_law Af mf df xf w10 of.ints (by omega)
  refine K11.mono ?_
  clear K11
  rintro e w11 ⟨rfl, b11⟩
  rw [HFP.out, HFB.out]
  have B11 := B10.trans (b11.mono B10.size)
  replace xx := box_below xx b11
  replace xy := box_below xy b11
  replace xt := box_below xt b11
  replace hX := hX.below b11
  replace oi := oi.below b11
  replace os := os.below b11
  replace hY := hY.below b11
  replace hT := hT.below b11
  replace of := of.below b11
  have S11 := b11.size
  clear b11 B10
  clear of
  have k1 : (OB != OB) = false := by simp
  have k2 : (GB != GB) = false := by simp
  have k3 : (GP != GP) = false := by simp
  have k4 : (FB != FB) = false := by simp
  have k5 : (FP != FP) = false := by simp
  have kq : (OL == OL) = true := by simp
  have cx0 := box_cell xx 0 _ rfl
  have cx1 := box_cell xx 1 _ rfl
  have cx2 := box_cell xx 2 _ rfl
  have cx3 := box_cell xx 3 _ rfl
  have cx4 := box_cell xx 4 _ rfl
  have cx5 := box_cell xx 5 _ rfl
  have cx6 := box_cell xx 6 _ rfl
  have cx7 := box_cell xx 7 _ rfl
  have cx8 := box_cell xx 8 _ rfl
  have cx9 := box_cell xx 9 _ rfl
  have cx10 := box_cell xx 10 _ rfl
  have cx11 := box_cell xx 11 _ rfl
  have cx12 := box_cell xx 12 _ rfl
  have cx13 := box_cell xx 13 _ rfl
  have lx := lt_of_block xx
  have cy0 := box_cell xy 0 _ rfl
  have cy1 := box_cell xy 1 _ rfl
  have cy2 := box_cell xy 2 _ rfl
  have cy3 := box_cell xy 3 _ rfl
  have cy4 := box_cell xy 4 _ rfl
  have cy5 := box_cell xy 5 _ rfl
  have cy6 := box_cell xy 6 _ rfl
  have cy7 := box_cell xy 7 _ rfl
  have cy8 := box_cell xy 8 _ rfl
  have cy9 := box_cell xy 9 _ rfl
  have cy10 := box_cell xy 10 _ rfl
  have cy11 := box_cell xy 11 _ rfl
  have cy12 := box_cell xy 12 _ rfl
  have cy13 := box_cell xy 13 _ rfl
  have ly := lt_of_block xy
  have ct0 := box_cell xt 0 _ rfl
  have ct1 := box_cell xt 1 _ rfl
  have ct2 := box_cell xt 2 _ rfl
  have ct3 := box_cell xt 3 _ rfl
  have lt := lt_of_block xt
  go_wp2_with fail
  clear cx0 cx1 cx2 cx3 cx4 cx5 cx6 cx7 cx8 cx9 cx10 cx11 cx12 cx13 lx cy0 cy1 cy2 cy3 cy4 cy5 cy6 cy7 cy8 cy9 cy10 cy11 cy12 cy13 ly ct0 ct1 ct2 ct3 lt
  have K12 := qInts_any Ai As _ ci _ cs OL OL w11 oi.intR os.intR
  refine K12.mono ?_
  clear K12
  rintro e w12 ⟨rfl, b12⟩
  rw [kq]
  have B12 := B11.trans (b12.mono B11.size)
  replace xx := box_below xx b12
  replace xy := box_below xy b12
  replace xt := box_below xt b12
  replace hX := hX.below b12
  replace oi := oi.below b12
  replace os := os.below b12
  replace hY := hY.below b12
  replace hT := hT.below b12
  have S12 := b12.size
  clear b12 B11
  clear os
  go_upto_if 109 with (fail)
  clear k1 k2 k3 k4 k5 kq
  have HB12 := Lib.hid B12
  clear B12
  have HOI := Lib.hid oi
  have BF := Below.refl w12.heap.size w12
  clear oi
  go_cut [] (fun wx => Below w12.heap.size w12 wx)
  case first =>
    cases GB
    · go_wp2_with fail
      go_meet
      exact BF
    · obtain ⟨QC, hQC⟩ : ∃ x, qcV D2 t = x := ⟨_, rfl⟩
      have HSV := Lib.hid (gapB_sv HGB.out)
      have REF := Lib.hid (fun h => refused (D := D2) (t := t) HGB.out h)
      rw [hQC, HGP.out] at REF
      have HQC := Lib.hid hQC
      clear hQC
      have cx0 := box_cell xx 0 _ rfl
      have cx1 := box_cell xx 1 _ rfl
      have cx2 := box_cell xx 2 _ rfl
      have cx3 := box_cell xx 3 _ rfl
      have cx4 := box_cell xx 4 _ rfl
      have cx5 := box_cell xx 5 _ rfl
      have cx6 := box_cell xx 6 _ rfl
      have cx7 := box_cell xx 7 _ rfl
      have cx8 := box_cell xx 8 _ rfl
      have cx9 := box_cell xx 9 _ rfl
      have cx10 := box_cell xx 10 _ rfl
      have cx11 := box_cell xx 11 _ rfl
      have cx12 := box_cell xx 12 _ rfl
      have cx13 := box_cell xx 13 _ rfl
      have lx := lt_of_block xx
      have cy0 := box_cell xy 0 _ rfl
      have cy1 := box_cell xy 1 _ rfl
      have cy2 := box_cell xy 2 _ rfl
      have cy3 := box_cell xy 3 _ rfl
      have cy4 := box_cell xy 4 _ rfl
      have cy5 := box_cell xy 5 _ rfl
      have cy6 := box_cell xy 6 _ rfl
      have cy7 := box_cell xy 7 _ rfl
      have cy8 := box_cell xy 8 _ rfl
      have cy9 := box_cell xy 9 _ rfl
      have cy10 := box_cell xy 10 _ rfl
      have cy11 := box_cell xy 11 _ rfl
      have cy12 := box_cell xy 12 _ rfl
      have cy13 := box_cell xy 13 _ rfl
      have ly := lt_of_block xy
      have ct0 := box_cell xt 0 _ rfl
      have ct1 := box_cell xt 1 _ rfl
      have ct2 := box_cell xt 2 _ rfl
      have ct3 := box_cell xt 3 _ rfl
      have lt := lt_of_block xt
      go_wp2_with fail
      clear cx0 cx1 cx2 cx3 cx4 cx5 cx6 cx7 cx8 cx9 cx10 cx11 cx12 cx13 lx cy0 cy1 cy2 cy3 cy4 cy5 cy6 cy7 cy8 cy9 cy10 cy11 cy12 cy13 ly ct0 ct1 ct2 ct3 lt
      have K13 := implQueryCode_law P2 A2 Z2 Y2 Q2 g2 cg2 n2 c2 m2 cm2 p2 cp2 q2 cq2 D2 V U tm td tk te t w12 hY hT
      refine K13.mono ?_
      clear K13
      rintro e w13 ⟨rfl, b13⟩
      rw [HQC.out, HSV.out]
      have B13 := BF.trans (b13.mono BF.size)
      replace xx := box_below xx b13
      replace xy := box_below xy b13
      replace xt := box_below xt b13
      replace hX := hX.below b13
      replace hY := hY.below b13
      replace hT := hT.below b13
      have S13 := b13.size
      clear b13 BF
      have HQ := Lib.hid hY.asked
      have HLQ := Lib.hid hY.asked.len
      have HT0 := Lib.hid hT
      have XT0 := Lib.hid xt
      have XY0 := Lib.hid xy
      have HB15 := Lib.hid B13
      have cy13 := box_cell xy 13 _ rfl
      have ly := lt_of_block xy
      clear hX hY hT xx xy xt B13
      go_wp2
      clear cy13 ly
      go_loopw [23, 119] (fun kn i wr => ∃ (j : Nat) (b : Bool), j ≤ q2 ∧ i = .int .i64 j ∧ kn = .bool b ∧ Hid (b = knV D2.asked t j) ∧ Hid (Below w13.heap.size w13 wr)) (fun _ i _ => q2 - (intOf i).toNat)
      case atStart => exact ⟨0, false, Nat.zero_le _, rfl, rfl, Lib.hid rfl, Lib.hid (Below.refl _ _)⟩
      case round =>
        obtain ⟨j, b, hj, rfl, rfl, hb, hbw⟩ := hrel
        by_cases hlt : j < q2
        · obtain ⟨ad, rfl, V', m', d', U', k', e', u0, u1, u2, u3, hu⟩ := (HQ.out.below hbw.out).at_ hlt
          have bj := below_new wr (.cells #[.int .i64 (tX D2.asked j).lv, .slice V' m' d', .slice U' k' e', .int .i64 (tX D2.asked j).sum] 56)
          have XN := Lib.hid (box_new wr #[.int .i64 (tX D2.asked j).lv, .slice V' m' d', .slice U' k' e', .int .i64 (tX D2.asked j).sum] 56)
          have HU := Lib.hid (hu.below bj)
          have XT := Lib.hid (box_below (box_below XT0.out hbw.out) bj)
          have HT1 := Lib.hid ((HT0.out.below hbw.out).below bj)
          have HW := Lib.hid (hbw.out.trans (bj.mono hbw.out.size))
          have HS := Lib.hid (show knV D2.asked t (j + 1) = (knV D2.asked t j || sameT (tX D2.asked j) t) from rfl)
          rw [← hb.out] at HS
          clear hu bj hbw hb
          have qn0 := box_cell XN.out 0 _ rfl
          have qn1 := box_cell XN.out 1 _ rfl
          have qn2 := box_cell XN.out 2 _ rfl
          have qn3 := box_cell XN.out 3 _ rfl
          have ln := lt_of_block XN.out
          have qt0 := box_cell XT.out 0 _ rfl
          have qt1 := box_cell XT.out 1 _ rfl
          have qt2 := box_cell XT.out 2 _ rfl
          have qt3 := box_cell XT.out 3 _ rfl
          have lt := lt_of_block XT.out
          cases b
          · go_wp2_with fail
            clear u0 u1 u2 u3 qn0 qn1 qn2 qn3 qt0 qt1 qt2 qt3 ln lt
            generalize wr.alloc (.cells #[.int .i64 (tX D2.asked j).lv, .slice V' m' d', .slice U' k' e', .int .i64 (tX D2.asked j).sum] 56) = w4 at *
            refine (qTable_any V' U' V U m' d' k' e' tm td tk te (tX D2.asked j) t _ HU.out HT1.out).mono ?_
            rintro e w5 ⟨rfl, b5⟩
            have HW5 := Lib.hid (HW.out.trans (b5.mono HW.out.size))
            clear b5 HW XN XT HU HT1
            go_wp2
            go_roundw
            case rel => exact ⟨j + 1, _, by omega, by go_num, rfl, Lib.hid (by rw [HS.out]; simp), HW5⟩
            case measure => simp [intOf]; omega
          · go_wp2
            go_roundw
            case rel => exact ⟨j + 1, _, by omega, by go_num, rfl, Lib.hid (by rw [HS.out]; simp), HW⟩
            case measure => simp [intOf]; omega
        · obtain rfl : q2 = j := by omega
          have HKN := Lib.hid (fun h => knV_fnd HLQ.out (hb.out.symm.trans h))
          have HBX := Lib.hid (HB15.out.trans (hbw.out.mono HB15.out.size))
          have XT := Lib.hid (box_below XT0.out hbw.out)
          have XY := Lib.hid (box_below XY0.out hbw.out)
          have ct3 := box_cell XT.out 3 _ rfl
          have cy12 := box_cell XY.out 12 _ rfl
          have lt := lt_of_block XT.out
          have ly := lt_of_block XY.out
          clear hbw HB15 hb hj hlt
          by_cases e0 : QC = 0
          · have q0 : (QC == 0) = true := by rw [beq_iff_eq]; exact e0
            cases b
            · by_cases e1 : t.sum < 0
              · have d1 : decide (t.sum < 0) = true := decide_eq_true e1
                by_cases e2 : 0 < GP
                · have d2 : decide (0 < GP) = true := decide_eq_true e2
                  by_cases e3 : GP < D2.floor
                  · exact absurd (REF.out e0 (HKN.out rfl) e1 e2 e3) (fun h => h)
                  · have d3 : decide (GP < D2.floor) = false := decide_eq_false e3
                    clear REF HKN e0 e1 e2 e3
                    go_wp2_with fail
                    go_meet
                    exact HBX.out
                · have d2 : decide (0 < GP) = false := decide_eq_false e2
                  clear REF HKN e0 e1 e2
                  go_wp2_with fail
                  go_meet
                  exact HBX.out
              · have d1 : decide (t.sum < 0) = false := decide_eq_false e1
                clear REF HKN e0 e1
                go_wp2_with fail
                go_meet
                exact HBX.out
            · clear REF HKN e0
              go_wp2_with fail
              go_meet
              exact HBX.out
          · have q0 : (QC == 0) = false := by rw [beq_eq_false_iff_ne]; exact e0
            clear REF HKN e0
            go_wp2_with fail
            go_meet
            exact HBX.out
  case rest =>
    have B13 := HB12.out.trans (hcut.mono HB12.out.size)
    have HX := Lib.hid (hX.below hcut)
    have XX := Lib.hid (box_below xx hcut)
    have HOI2 := Lib.hid (HOI.out.below hcut)
    have hol := HOI2.out.small
    clear hX hY hT xx xy xt BF HOI HB12 hcut HGP HGB HFP HFB
    cases OB
    · go_wp2
      go_ret
      exact ⟨rfl, B13⟩
    · have HPL := Lib.hid HX.out.plan.len
      have HB13 := Lib.hid B13
      have cx3 := box_cell XX.out 3 _ rfl
      have lx := lt_of_block XX.out
      clear B13
      go_wp2
      clear cx3 lx
      go_loopw [160] (fun i wr => ∃ j : Nat, j ≤ p ∧ i = .int .i64 j ∧ Hid (Below wc.heap.size wc wr)) (fun i _ => p - (intOf i).toNat)
      case atStart => exact ⟨0, Nat.zero_le _, rfl, Lib.hid (Below.refl _ _)⟩
      case round =>
        obtain ⟨j, hj, rfl, hbw⟩ := hrel
        by_cases hlt : j < p
        · obtain ⟨ad, rfl, V', m', d', U', k', e', u0, u1, u2, u3, hu⟩ := (HX.out.plan.below hbw.out).at_ hlt
          have bj := below_new wr (.cells #[.int .i64 (tX D.plan j).lv, .slice V' m' d', .slice U' k' e', .int .i64 (tX D.plan j).sum] 56)
          have XN := Lib.hid (box_new wr #[.int .i64 (tX D.plan j).lv, .slice V' m' d', .slice U' k' e', .int .i64 (tX D.plan j).sum] 56)
          have HU := Lib.hid (hu.below bj)
          have X1 := Lib.hid (box_below (box_below XX.out hbw.out) bj)
          have HV1 := Lib.hid ((HX.out.below hbw.out).below bj)
          have HO1 := Lib.hid ((HOI2.out.below hbw.out).below bj)
          have HW := Lib.hid (hbw.out.trans (bj.mono hbw.out.size))
          have MET := Lib.hid (met_open (D := D) HOB.out HPL.out hlt)
          rw [HOL.out] at MET
          clear hu bj hbw
          have qn0 := box_cell XN.out 0 _ rfl
          have qn1 := box_cell XN.out 1 _ rfl
          have qn2 := box_cell XN.out 2 _ rfl
          have qn3 := box_cell XN.out 3 _ rfl
          have ln := lt_of_block XN.out
          have qx0 := box_cell X1.out 0 _ rfl
          have qx1 := box_cell X1.out 1 _ rfl
          have qx2 := box_cell X1.out 2 _ rfl
          have qx3 := box_cell X1.out 3 _ rfl
          have qx4 := box_cell X1.out 4 _ rfl
          have qx5 := box_cell X1.out 5 _ rfl
          have qx6 := box_cell X1.out 6 _ rfl
          have qx7 := box_cell X1.out 7 _ rfl
          have qx8 := box_cell X1.out 8 _ rfl
          have qx9 := box_cell X1.out 9 _ rfl
          have qx10 := box_cell X1.out 10 _ rfl
          have qx11 := box_cell X1.out 11 _ rfl
          have qx12 := box_cell X1.out 12 _ rfl
          have qx13 := box_cell X1.out 13 _ rfl
          have lx := lt_of_block X1.out
          go_wp2_with fail
          clear u0 u1 u2 u3 ln lx qn0 qn1 qn2 qn3 qx0 qx1 qx2 qx3 qx4 qx5 qx6 qx7 qx8 qx9 qx10 qx11 qx12 qx13
          generalize wr.alloc (.cells #[.int .i64 (tX D.plan j).lv, .slice V' m' d', .slice U' k' e', .int .i64 (tX D.plan j).sum] 56) = w4 at *
          refine (implQueryCode_law P A Z (some ad) Q g cg n c m cm p cp q cq D V' U' m' d' k' e' (tX D.plan j) _ HV1.out HU.out).mono ?_
          rintro e w5 ⟨rfl, b5⟩
          rw [HOB.out]
          have HW5 := Lib.hid (HW.out.trans (b5.mono HW.out.size))
          have HO5 := Lib.hid (HO1.out.below b5).ints
          clear b5 HW XN X1 HU HV1 HO1
          generalize qcV D (tX D.plan j) = QJ at *
          go_wp2
          go_loopw [30, 173] (fun mt i wq => ∃ (k : Nat) (b : Bool), k ≤ OL.length ∧ i = .int .i64 k ∧ mt = .bool b ∧ Hid (b = metV OL j k) ∧ w5 = wq) (fun _ i _ => OL.length - (intOf i).toNat)
          case atStart => exact ⟨0, false, Nat.zero_le _, rfl, rfl, Lib.hid rfl, rfl⟩
          case round =>
            obtain ⟨k, b, hk, rfl, rfl, hb, rfl⟩ := hrel
            by_cases hkl : k < OL.length
            · obtain ⟨ad', rfl, cu⟩ := HO5.out.at_ hkl
              have HS := Lib.hid (show metV OL j (k + 1) = (metV OL j k || ((j : Int) == OL[k]?.getD 0)) from rfl)
              rw [← hb.out] at HS
              generalize OL[k]?.getD 0 = x at *
              clear hb
              cases b
              · go_wp2
                go_roundw
                case rel => exact ⟨k + 1, _, by omega, by go_num, rfl, Lib.hid (by rw [HS.out]; simp), trivial⟩
                case measure => simp [intOf]; omega
              · go_wp2
                go_roundw
                case rel => exact ⟨k + 1, _, by omega, by go_num, rfl, Lib.hid (by rw [HS.out]; simp), trivial⟩
                case measure => simp [intOf]; omega
            · obtain rfl : k = OL.length := by omega
              obtain rfl : b = (QJ == 0) := hb.out.trans MET.out
              have kx : ((QJ == 0) != (QJ == 0)) = false := by simp
              clear hb MET hk hkl
              go_wp2
              go_roundw
              case rel => exact ⟨j + 1, by omega, by go_num, HW5⟩
              case measure => simp [intOf]; omega
        · obtain rfl : p = j := by omega
          have X1 := Lib.hid (box_below XX.out hbw.out)
          have HV1 := Lib.hid (HX.out.below hbw.out)
          have HB14 := Lib.hid (HB13.out.trans (hbw.out.mono HB13.out.size))
          clear hbw HB13 HX XX
          have qx0 := box_cell X1.out 0 _ rfl
          have qx1 := box_cell X1.out 1 _ rfl
          have qx2 := box_cell X1.out 2 _ rfl
          have qx3 := box_cell X1.out 3 _ rfl
          have qx4 := box_cell X1.out 4 _ rfl
          have qx5 := box_cell X1.out 5 _ rfl
          have qx6 := box_cell X1.out 6 _ rfl
          have qx7 := box_cell X1.out 7 _ rfl
          have qx8 := box_cell X1.out 8 _ rfl
          have qx9 := box_cell X1.out 9 _ rfl
          have qx10 := box_cell X1.out 10 _ rfl
          have qx11 := box_cell X1.out 11 _ rfl
          have qx12 := box_cell X1.out 12 _ rfl
          have qx13 := box_cell X1.out 13 _ rfl
          have lx := lt_of_block X1.out
          go_wp2_with fail
          clear lx qx0 qx1 qx2 qx3 qx4 qx5 qx6 qx7 qx8 qx9 qx10 qx11 qx12 qx13
          refine (IsServer_any P A Z Y Q g cg n c m cm p cp q cq D _ HV1.out.hcp HV1.out.hcq HV1.out.sur HV1.out.plan HV1.out.asked).mono ?_
          rintro e w6 ⟨rfl, b6⟩
          have HF := Lib.hid (HB14.out.trans (b6.mono HB14.out.size))
          rw [HOB.out]
          clear b6 HB14 X1 HV1
          go_wp2
          go_ret
          exact ⟨rfl, HF.out⟩
end Go.Proofs.YtfanpbfmnckmnaaGreat
