/- The walk of the law FnServers, printed by gfs.py. -/
import Derived.Test.YtfanpbfmnckmnaaGreatYy
import Derived.Test.YtfanpbfmnckmnaaGreatDgX
import Derived.Test.YtfanpbfmnckmnaaGreatYz
import Derived.Test.YtfanpbfmnckmnaaGreatZs
namespace Go.Proofs.YtfanpbfmnckmnaaGreat
open Go.RowKit

set_option maxRecDepth 100000 in
set_option maxHeartbeats 4000000 in
theorem walk_FnServers (a0 : Option Addr) (n0 c0 : Nat) (z0 : List Int) (a1 : Option Addr) (n1 c1 : Nat) (z1 : List Int) (w : World) (r0 : Bytes w a0 n0 z0) (m0 : n0 ≤ maxLen) (f0 : ∀ x ∈ z0, (Lit.int .u8 x).wf = true) (r1 : Bytes w a1 n1 z1) (m1 : n1 ≤ maxLen) (f1 : ∀ x ∈ z1, (Lit.int .u8 x).wf = true) :
    Calls Tryz.prog 9 #[.slice a0 n0 c0, .slice a1 n1 c1] w fun e w' => e = .returned (.bool true) ∧ Below w.heap.size w w' := by
  have hb0 := Lib.hid (byt_of r0 f0)
  have hb1 := Lib.hid (byt_of r1 f1)
  have B0 := Below.refl w.heap.size w
  unfold maxLen at m0 m1
  clear r0 f0 r1 f1
  go_enter Tryz.func9, Tryz.ntmps9
  go_wp2_with fail
  · go_ret
    exact ⟨rfl, B0⟩
  rename (wrap64 _ ≤ _) => hbig
  clear hbig
  have K1 := (drawAskTable_any a0 n0 c0 w (hb0.out.below B0) (by omega)).mono fun _ _ h => h.law
  refine K1.mono ?_
  clear K1
  rintro e w1 ⟨P, A, Z, Y, Q, g, cg, n, c, m, cm, p, cp, q, cq, D, V, tm, td, U, tk, te, t, rfl, hX, hT, hp, hq, b1⟩
  have B1 := B0.trans (b1.mono B0.size)
  have S1 := b1.size
  clear b1 B0
  obtain ⟨OK, hOK⟩ : ∃ x, svB D = x := ⟨_, rfl⟩
  obtain ⟨KK, hKK⟩ : ∃ x, aK D t = x := ⟨_, rfl⟩
  obtain ⟨KC, hKC⟩ : ∃ x, aC D t = x := ⟨_, rfl⟩
  have HOK := Lib.hid hOK
  have HKK := Lib.hid hKK
  have HKC := Lib.hid hKC
  clear hOK hKK hKC
  obtain ⟨b2, xx, xt⟩ := box_two w1 #[.slice P g cg, .slice A n c, .slice Z m cm, .slice Y p cp, .int .i64 D.cost.a, .int .i64 D.cost.b, .int .i64 D.cost.c, .int .i64 D.cost.d, .int .i64 D.bud.a, .int .i64 D.bud.b, .int .i64 D.bud.c, .int .i64 D.bud.d, .int .i64 D.floor, .slice Q q cq] #[.int .i64 t.lv, .slice V tm td, .slice U tk te, .int .i64 t.sum] 44 56
  obtain ⟨gx, hgx⟩ : ∃ g, w1.heap.size = g := ⟨_, rfl⟩
  have ex0 := bxc xx 0 _ rfl
  have ex1 := bxc xx 1 _ rfl
  have ex2 := bxc xx 2 _ rfl
  have ex3 := bxc xx 3 _ rfl
  have ex4 := bxc xx 4 _ rfl
  have ex5 := bxc xx 5 _ rfl
  have ex6 := bxc xx 6 _ rfl
  have ex7 := bxc xx 7 _ rfl
  have ex8 := bxc xx 8 _ rfl
  have ex9 := bxc xx 9 _ rfl
  have ex10 := bxc xx 10 _ rfl
  have ex11 := bxc xx 11 _ rfl
  have ex12 := bxc xx 12 _ rfl
  have ex13 := bxc xx 13 _ rfl
  have et0 := bxc xt 0 _ rfl
  have et1 := bxc xt 1 _ rfl
  have et2 := bxc xt 2 _ rfl
  have et3 := bxc xt 3 _ rfl
  go_wp2_with fail
  clear ex0 ex1 ex2 ex3 ex4 ex5 ex6 ex7 ex8 ex9 ex10 ex11 ex12 ex13 et0 et1 et2 et3
  generalize (w1.alloc (.cells #[.slice P g cg, .slice A n c, .slice Z m cm, .slice Y p cp, .int .i64 D.cost.a, .int .i64 D.cost.b, .int .i64 D.cost.c, .int .i64 D.cost.d, .int .i64 D.bud.a, .int .i64 D.bud.b, .int .i64 D.bud.c, .int .i64 D.bud.d, .int .i64 D.floor, .slice Q q cq] 44)).alloc (.cells #[.int .i64 t.lv, .slice V tm td, .slice U tk te, .int .i64 t.sum] 56) = w2 at *
  have B2 := B1.trans (b2.mono B1.size)
  replace hX := hX.below b2
  replace hT := hT.below b2
  have S2 := b2.size
  clear b2 B1
  rw [hgx] at xx xt
  try rw [hgx]
  clear hgx
  have K3 := implAskTable_any P A Z Y Q V U g cg n c m cm p cp q cq tm td tk te D t w2 hX hT (by omega)
  refine K3.mono ?_
  clear K3
  rintro e w3 ⟨P3, A3, Z3, Y3, Q3, RB3, g3, cg3, n3, c3, m3, cm3, p3, cp3, q3, cq3, nb3, cb3, E, hE, rfl, hY, hC, b3⟩
  rw [HKK.out, HOK.out]
  have HhE := Lib.hid hE
  clear hE
  have B3 := B2.trans (b3.mono B2.size)
  replace xx := bxb xx b3
  replace xt := bxb xt b3
  replace hX := hX.below b3
  replace hT := hT.below b3
  have S3 := b3.size
  clear b3 B2
  rw [HKC.out] at hC
  have b4 := below_new w3 (.cells #[.slice P3 g3 cg3, .slice A3 n3 c3, .slice Z3 m3 cm3, .slice Y3 p3 cp3, .int .i64 E.cost.a, .int .i64 E.cost.b, .int .i64 E.cost.c, .int .i64 E.cost.d, .int .i64 E.bud.a, .int .i64 E.bud.b, .int .i64 E.bud.c, .int .i64 E.bud.d, .int .i64 E.floor, .slice Q3 q3 cq3] 44)
  have xy := box_new w3 #[.slice P3 g3 cg3, .slice A3 n3 c3, .slice Z3 m3 cm3, .slice Y3 p3 cp3, .int .i64 E.cost.a, .int .i64 E.cost.b, .int .i64 E.cost.c, .int .i64 E.cost.d, .int .i64 E.bud.a, .int .i64 E.bud.b, .int .i64 E.bud.c, .int .i64 E.bud.d, .int .i64 E.floor, .slice Q3 q3 cq3] 44
  obtain ⟨gy, hgy⟩ : ∃ g, w3.heap.size = g := ⟨_, rfl⟩
  have ex0 := bxc (bxb xx b4) 0 _ rfl
  have ex1 := bxc (bxb xx b4) 1 _ rfl
  have ex2 := bxc (bxb xx b4) 2 _ rfl
  have ex3 := bxc (bxb xx b4) 3 _ rfl
  have ex4 := bxc (bxb xx b4) 4 _ rfl
  have ex5 := bxc (bxb xx b4) 5 _ rfl
  have ex6 := bxc (bxb xx b4) 6 _ rfl
  have ex7 := bxc (bxb xx b4) 7 _ rfl
  have ex8 := bxc (bxb xx b4) 8 _ rfl
  have ex9 := bxc (bxb xx b4) 9 _ rfl
  have ex10 := bxc (bxb xx b4) 10 _ rfl
  have ex11 := bxc (bxb xx b4) 11 _ rfl
  have ex12 := bxc (bxb xx b4) 12 _ rfl
  have ex13 := bxc (bxb xx b4) 13 _ rfl
  have et0 := bxc (bxb xt b4) 0 _ rfl
  have et1 := bxc (bxb xt b4) 1 _ rfl
  have et2 := bxc (bxb xt b4) 2 _ rfl
  have et3 := bxc (bxb xt b4) 3 _ rfl
  have lx := lt_of_block xx
  have lt := lt_of_block xt
  go_wp2_with fail
  clear ex0 ex1 ex2 ex3 ex4 ex5 ex6 ex7 ex8 ex9 ex10 ex11 ex12 ex13 et0 et1 et2 et3 lx lt
  generalize w3.alloc (.cells #[.slice P3 g3 cg3, .slice A3 n3 c3, .slice Z3 m3 cm3, .slice Y3 p3 cp3, .int .i64 E.cost.a, .int .i64 E.cost.b, .int .i64 E.cost.c, .int .i64 E.cost.d, .int .i64 E.bud.a, .int .i64 E.bud.b, .int .i64 E.bud.c, .int .i64 E.bud.d, .int .i64 E.floor, .slice Q3 q3 cq3] 44) = w4 at *
  have B4 := B3.trans (b4.mono B3.size)
  replace xx := bxb xx b4
  replace xt := bxb xt b4
  replace hX := hX.below b4
  replace hT := hT.below b4
  replace hY := hY.below b4
  replace hC := hC.below b4
  have S4 := b4.size
  clear b4 B3
  rw [hgy] at xy
  try rw [hgy]
  clear hgy
  have K5 := specAskTable_any P A Z Y Q V U g cg n c m cm p cp q cq tm td tk te D t w4 hX hT (by omega)
  refine K5.mono ?_
  clear K5
  rintro e w5 ⟨P4, A4, Z4, Y4, Q4, RB4, g4, cg4, n4, c4, m4, cm4, p4, cp4, q4, cq4, nb4, cb4, E4, hE4, rfl, hY4, hC4, b5⟩
  rw [HKK.out, HOK.out]
  have HhE4 := Lib.hid hE4
  clear hE4
  have B5 := B4.trans (b5.mono B4.size)
  replace xx := bxb xx b5
  replace xt := bxb xt b5
  replace xy := bxb xy b5
  replace hX := hX.below b5
  replace hT := hT.below b5
  replace hY := hY.below b5
  replace hC := hC.below b5
  have S5 := b5.size
  clear b5 B4
  rw [HKC.out] at hC4
  obtain rfl : E = E4 := HhE.out.trans HhE4.out.symm
  obtain ⟨l1, l2, l3, l4, l5⟩ := svR_lens hY
  obtain ⟨k1, k2, k3, k4, k5⟩ := svR_lens hY4
  obtain rfl : g3 = g4 := l1.symm.trans k1
  obtain rfl : n3 = n4 := l2.symm.trans k2
  obtain rfl : m3 = m4 := l3.symm.trans k3
  obtain rfl : p3 = p4 := l4.symm.trans k4
  obtain rfl : q3 = q4 := l5.symm.trans k5
  clear l1 l2 l3 l4 l5 k1 k2 k3 k4 k5
  clear HhE4
  have b6 := below_new w5 (.cells #[.slice P4 g3 cg4, .slice A4 n3 c4, .slice Z4 m3 cm4, .slice Y4 p3 cp4, .int .i64 E.cost.a, .int .i64 E.cost.b, .int .i64 E.cost.c, .int .i64 E.cost.d, .int .i64 E.bud.a, .int .i64 E.bud.b, .int .i64 E.bud.c, .int .i64 E.bud.d, .int .i64 E.floor, .slice Q4 q3 cq4] 44)
  have xv := box_new w5 #[.slice P4 g3 cg4, .slice A4 n3 c4, .slice Z4 m3 cm4, .slice Y4 p3 cp4, .int .i64 E.cost.a, .int .i64 E.cost.b, .int .i64 E.cost.c, .int .i64 E.cost.d, .int .i64 E.bud.a, .int .i64 E.bud.b, .int .i64 E.bud.c, .int .i64 E.bud.d, .int .i64 E.floor, .slice Q4 q3 cq4] 44
  obtain ⟨gv, hgv⟩ : ∃ g, w5.heap.size = g := ⟨_, rfl⟩
  go_wp2_with fail
  generalize w5.alloc (.cells #[.slice P4 g3 cg4, .slice A4 n3 c4, .slice Z4 m3 cm4, .slice Y4 p3 cp4, .int .i64 E.cost.a, .int .i64 E.cost.b, .int .i64 E.cost.c, .int .i64 E.cost.d, .int .i64 E.bud.a, .int .i64 E.bud.b, .int .i64 E.bud.c, .int .i64 E.bud.d, .int .i64 E.floor, .slice Q4 q3 cq4] 44) = w6 at *
  have B6 := B5.trans (b6.mono B5.size)
  replace xx := bxb xx b6
  replace xt := bxb xt b6
  replace xy := bxb xy b6
  replace hX := hX.below b6
  replace hT := hT.below b6
  replace hY := hY.below b6
  replace hC := hC.below b6
  replace hY4 := hY4.below b6
  replace hC4 := hC4.below b6
  have S6 := b6.size
  clear b6 B5
  rw [hgv] at xv
  try rw [hgv]
  clear hgv
  have K7 := (drawAskAll_any a1 n1 c1 w6 (hb1.out.below B6) (by omega)).mono fun _ _ h => h.law
  refine K7.mono ?_
  clear K7
  rintro e w7 ⟨P5, A5, Z5, Y5, Q5, g5, cg5, n5, c5, m5, cm5, p5, cp5, q5, cq5, D5, L, tn, tc, l, rfl, hZ, hL, hp5, hq5, b7⟩
  have B7 := B6.trans (b7.mono B6.size)
  replace xx := bxb xx b7
  replace xt := bxb xt b7
  replace xy := bxb xy b7
  replace xv := bxb xv b7
  replace hX := hX.below b7
  replace hT := hT.below b7
  replace hY := hY.below b7
  replace hC := hC.below b7
  replace hY4 := hY4.below b7
  replace hC4 := hC4.below b7
  have S7 := b7.size
  clear b7 B6
  obtain ⟨BB, hBB⟩ : ∃ x, aaB D5 l = x := ⟨_, rfl⟩
  obtain ⟨LL, hLL⟩ : ∃ x, aaC D5 l = x := ⟨_, rfl⟩
  have HBB := Lib.hid hBB
  have HLL := Lib.hid hLL
  clear hBB hLL
  have b8 := below_new w7 (.cells #[.slice P5 g5 cg5, .slice A5 n5 c5, .slice Z5 m5 cm5, .slice Y5 p5 cp5, .int .i64 D5.cost.a, .int .i64 D5.cost.b, .int .i64 D5.cost.c, .int .i64 D5.cost.d, .int .i64 D5.bud.a, .int .i64 D5.bud.b, .int .i64 D5.bud.c, .int .i64 D5.bud.d, .int .i64 D5.floor, .slice Q5 q5 cq5] 44)
  have xz := box_new w7 #[.slice P5 g5 cg5, .slice A5 n5 c5, .slice Z5 m5 cm5, .slice Y5 p5 cp5, .int .i64 D5.cost.a, .int .i64 D5.cost.b, .int .i64 D5.cost.c, .int .i64 D5.cost.d, .int .i64 D5.bud.a, .int .i64 D5.bud.b, .int .i64 D5.bud.c, .int .i64 D5.bud.d, .int .i64 D5.floor, .slice Q5 q5 cq5] 44
  obtain ⟨gz, hgz⟩ : ∃ g, w7.heap.size = g := ⟨_, rfl⟩
  have ez0 := bxc xz 0 _ rfl
  have ez1 := bxc xz 1 _ rfl
  have ez2 := bxc xz 2 _ rfl
  have ez3 := bxc xz 3 _ rfl
  have ez4 := bxc xz 4 _ rfl
  have ez5 := bxc xz 5 _ rfl
  have ez6 := bxc xz 6 _ rfl
  have ez7 := bxc xz 7 _ rfl
  have ez8 := bxc xz 8 _ rfl
  have ez9 := bxc xz 9 _ rfl
  have ez10 := bxc xz 10 _ rfl
  have ez11 := bxc xz 11 _ rfl
  have ez12 := bxc xz 12 _ rfl
  have ez13 := bxc xz 13 _ rfl
  go_wp2_with fail
  clear ez0 ez1 ez2 ez3 ez4 ez5 ez6 ez7 ez8 ez9 ez10 ez11 ez12 ez13
  generalize w7.alloc (.cells #[.slice P5 g5 cg5, .slice A5 n5 c5, .slice Z5 m5 cm5, .slice Y5 p5 cp5, .int .i64 D5.cost.a, .int .i64 D5.cost.b, .int .i64 D5.cost.c, .int .i64 D5.cost.d, .int .i64 D5.bud.a, .int .i64 D5.bud.b, .int .i64 D5.bud.c, .int .i64 D5.bud.d, .int .i64 D5.floor, .slice Q5 q5 cq5] 44) = w8 at *
  have B8 := B7.trans (b8.mono B7.size)
  replace xx := bxb xx b8
  replace xt := bxb xt b8
  replace xy := bxb xy b8
  replace xv := bxb xv b8
  replace hX := hX.below b8
  replace hT := hT.below b8
  replace hY := hY.below b8
  replace hC := hC.below b8
  replace hY4 := hY4.below b8
  replace hC4 := hC4.below b8
  replace hZ := hZ.below b8
  replace hL := hL.below b8
  have S8 := b8.size
  clear b8 B7
  rw [hgz] at xz
  try rw [hgz]
  clear hgz
  have K9 := implAskAll_any P5 A5 Z5 Y5 Q5 L g5 cg5 n5 c5 m5 cm5 p5 cp5 q5 cq5 tn tc D5 l w8 hZ hL (by omega)
  refine K9.mono ?_
  clear K9
  rintro e w9 ⟨P6, A6, Z6, Y6, Q6, RB6, g6, cg6, n6, c6, m6, cm6, p6, cp6, q6, cq6, nb6, cb6, E6, hE6, rfl, hS, hD6, b9⟩
  rw [HBB.out]
  have HhE6 := Lib.hid hE6
  clear hE6
  have B9 := B8.trans (b9.mono B8.size)
  replace xx := bxb xx b9
  replace xt := bxb xt b9
  replace xy := bxb xy b9
  replace xv := bxb xv b9
  replace xz := bxb xz b9
  replace hX := hX.below b9
  replace hT := hT.below b9
  replace hY := hY.below b9
  replace hC := hC.below b9
  replace hY4 := hY4.below b9
  replace hC4 := hC4.below b9
  replace hZ := hZ.below b9
  replace hL := hL.below b9
  have S9 := b9.size
  clear b9 B8
  rw [HLL.out] at hD6
  have b10 := below_new w9 (.cells #[.slice P6 g6 cg6, .slice A6 n6 c6, .slice Z6 m6 cm6, .slice Y6 p6 cp6, .int .i64 E6.cost.a, .int .i64 E6.cost.b, .int .i64 E6.cost.c, .int .i64 E6.cost.d, .int .i64 E6.bud.a, .int .i64 E6.bud.b, .int .i64 E6.bud.c, .int .i64 E6.bud.d, .int .i64 E6.floor, .slice Q6 q6 cq6] 44)
  have xs := box_new w9 #[.slice P6 g6 cg6, .slice A6 n6 c6, .slice Z6 m6 cm6, .slice Y6 p6 cp6, .int .i64 E6.cost.a, .int .i64 E6.cost.b, .int .i64 E6.cost.c, .int .i64 E6.cost.d, .int .i64 E6.bud.a, .int .i64 E6.bud.b, .int .i64 E6.bud.c, .int .i64 E6.bud.d, .int .i64 E6.floor, .slice Q6 q6 cq6] 44
  obtain ⟨gs, hgs⟩ : ∃ g, w9.heap.size = g := ⟨_, rfl⟩
  have ez0 := bxc (bxb xz b10) 0 _ rfl
  have ez1 := bxc (bxb xz b10) 1 _ rfl
  have ez2 := bxc (bxb xz b10) 2 _ rfl
  have ez3 := bxc (bxb xz b10) 3 _ rfl
  have ez4 := bxc (bxb xz b10) 4 _ rfl
  have ez5 := bxc (bxb xz b10) 5 _ rfl
  have ez6 := bxc (bxb xz b10) 6 _ rfl
  have ez7 := bxc (bxb xz b10) 7 _ rfl
  have ez8 := bxc (bxb xz b10) 8 _ rfl
  have ez9 := bxc (bxb xz b10) 9 _ rfl
  have ez10 := bxc (bxb xz b10) 10 _ rfl
  have ez11 := bxc (bxb xz b10) 11 _ rfl
  have ez12 := bxc (bxb xz b10) 12 _ rfl
  have ez13 := bxc (bxb xz b10) 13 _ rfl
  have lz := lt_of_block xz
  go_wp2_with fail
  clear ez0 ez1 ez2 ez3 ez4 ez5 ez6 ez7 ez8 ez9 ez10 ez11 ez12 ez13 lz
  generalize w9.alloc (.cells #[.slice P6 g6 cg6, .slice A6 n6 c6, .slice Z6 m6 cm6, .slice Y6 p6 cp6, .int .i64 E6.cost.a, .int .i64 E6.cost.b, .int .i64 E6.cost.c, .int .i64 E6.cost.d, .int .i64 E6.bud.a, .int .i64 E6.bud.b, .int .i64 E6.bud.c, .int .i64 E6.bud.d, .int .i64 E6.floor, .slice Q6 q6 cq6] 44) = w10 at *
  have B10 := B9.trans (b10.mono B9.size)
  replace xx := bxb xx b10
  replace xt := bxb xt b10
  replace xy := bxb xy b10
  replace xv := bxb xv b10
  replace xz := bxb xz b10
  replace hX := hX.below b10
  replace hT := hT.below b10
  replace hY := hY.below b10
  replace hC := hC.below b10
  replace hY4 := hY4.below b10
  replace hC4 := hC4.below b10
  replace hZ := hZ.below b10
  replace hL := hL.below b10
  replace hS := hS.below b10
  replace hD6 := hD6.below b10
  have S10 := b10.size
  clear b10 B9
  rw [hgs] at xs
  try rw [hgs]
  clear hgs
  have K11 := specAskAll_any P5 A5 Z5 Y5 Q5 L g5 cg5 n5 c5 m5 cm5 p5 cp5 q5 cq5 tn tc D5 l w10 hZ hL (by omega)
  refine K11.mono ?_
  clear K11
  rintro e w11 ⟨P7, A7, Z7, Y7, Q7, RB7, g7, cg7, n7, c7, m7, cm7, p7, cp7, q7, cq7, nb7, cb7, E7, hE7, rfl, hS7, hD7, b11⟩
  rw [HBB.out]
  have HhE7 := Lib.hid hE7
  clear hE7
  have B11 := B10.trans (b11.mono B10.size)
  replace xx := bxb xx b11
  replace xt := bxb xt b11
  replace xy := bxb xy b11
  replace xv := bxb xv b11
  replace xz := bxb xz b11
  replace xs := bxb xs b11
  replace hX := hX.below b11
  replace hT := hT.below b11
  replace hY := hY.below b11
  replace hC := hC.below b11
  replace hY4 := hY4.below b11
  replace hC4 := hC4.below b11
  replace hZ := hZ.below b11
  replace hL := hL.below b11
  replace hS := hS.below b11
  replace hD6 := hD6.below b11
  have S11 := b11.size
  clear b11 B10
  rw [HLL.out] at hD7
  obtain rfl : E6 = E7 := HhE6.out.trans HhE7.out.symm
  obtain ⟨l1, l2, l3, l4, l5⟩ := svR_lens hS
  obtain ⟨k1, k2, k3, k4, k5⟩ := svR_lens hS7
  obtain rfl : g6 = g7 := l1.symm.trans k1
  obtain rfl : n6 = n7 := l2.symm.trans k2
  obtain rfl : m6 = m7 := l3.symm.trans k3
  obtain rfl : p6 = p7 := l4.symm.trans k4
  obtain rfl : q6 = q7 := l5.symm.trans k5
  clear l1 l2 l3 l4 l5 k1 k2 k3 k4 k5
  clear HhE7
  clear hZ hL
  clear xz
  have k1 : (OK != OK) = false := by simp
  have k2 : (KK != KK) = false := by simp
  have k3 : (BB != BB) = false := by simp
  have kq : (KC == KC) = true := by simp
  have kl : (LL == LL) = true := by simp
  have b12 := below_new w11 (.cells #[.slice P7 g6 cg7, .slice A7 n6 c7, .slice Z7 m6 cm7, .slice Y7 p6 cp7, .int .i64 E6.cost.a, .int .i64 E6.cost.b, .int .i64 E6.cost.c, .int .i64 E6.cost.d, .int .i64 E6.bud.a, .int .i64 E6.bud.b, .int .i64 E6.bud.c, .int .i64 E6.bud.d, .int .i64 E6.floor, .slice Q7 q6 cq7] 44)
  have xf := box_new w11 #[.slice P7 g6 cg7, .slice A7 n6 c7, .slice Z7 m6 cm7, .slice Y7 p6 cp7, .int .i64 E6.cost.a, .int .i64 E6.cost.b, .int .i64 E6.cost.c, .int .i64 E6.cost.d, .int .i64 E6.bud.a, .int .i64 E6.bud.b, .int .i64 E6.bud.c, .int .i64 E6.bud.d, .int .i64 E6.floor, .slice Q7 q6 cq7] 44
  obtain ⟨gf, hgf⟩ : ∃ g, w11.heap.size = g := ⟨_, rfl⟩
  have ey0 := bxc (bxb xy b12) 0 _ rfl
  have ey1 := bxc (bxb xy b12) 1 _ rfl
  have ey2 := bxc (bxb xy b12) 2 _ rfl
  have ey3 := bxc (bxb xy b12) 3 _ rfl
  have ey4 := bxc (bxb xy b12) 4 _ rfl
  have ey5 := bxc (bxb xy b12) 5 _ rfl
  have ey6 := bxc (bxb xy b12) 6 _ rfl
  have ey7 := bxc (bxb xy b12) 7 _ rfl
  have ey8 := bxc (bxb xy b12) 8 _ rfl
  have ey9 := bxc (bxb xy b12) 9 _ rfl
  have ey10 := bxc (bxb xy b12) 10 _ rfl
  have ey11 := bxc (bxb xy b12) 11 _ rfl
  have ey12 := bxc (bxb xy b12) 12 _ rfl
  have ey13 := bxc (bxb xy b12) 13 _ rfl
  have ev0 := bxc (bxb xv b12) 0 _ rfl
  have ev1 := bxc (bxb xv b12) 1 _ rfl
  have ev2 := bxc (bxb xv b12) 2 _ rfl
  have ev3 := bxc (bxb xv b12) 3 _ rfl
  have ev4 := bxc (bxb xv b12) 4 _ rfl
  have ev5 := bxc (bxb xv b12) 5 _ rfl
  have ev6 := bxc (bxb xv b12) 6 _ rfl
  have ev7 := bxc (bxb xv b12) 7 _ rfl
  have ev8 := bxc (bxb xv b12) 8 _ rfl
  have ev9 := bxc (bxb xv b12) 9 _ rfl
  have ev10 := bxc (bxb xv b12) 10 _ rfl
  have ev11 := bxc (bxb xv b12) 11 _ rfl
  have ev12 := bxc (bxb xv b12) 12 _ rfl
  have ev13 := bxc (bxb xv b12) 13 _ rfl
  have ly := lt_of_block xy
  have lv := lt_of_block xv
  go_wp2_with fail
  clear ey0 ey1 ey2 ey3 ey4 ey5 ey6 ey7 ey8 ey9 ey10 ey11 ey12 ey13 ev0 ev1 ev2 ev3 ev4 ev5 ev6 ev7 ev8 ev9 ev10 ev11 ev12 ev13 ly lv
  generalize w11.alloc (.cells #[.slice P7 g6 cg7, .slice A7 n6 c7, .slice Z7 m6 cm7, .slice Y7 p6 cp7, .int .i64 E6.cost.a, .int .i64 E6.cost.b, .int .i64 E6.cost.c, .int .i64 E6.cost.d, .int .i64 E6.bud.a, .int .i64 E6.bud.b, .int .i64 E6.bud.c, .int .i64 E6.bud.d, .int .i64 E6.floor, .slice Q7 q6 cq7] 44) = w12 at *
  have B12 := B11.trans (b12.mono B11.size)
  replace xx := bxb xx b12
  replace xt := bxb xt b12
  replace xy := bxb xy b12
  replace xv := bxb xv b12
  replace xs := bxb xs b12
  replace hX := hX.below b12
  replace hT := hT.below b12
  replace hY := hY.below b12
  replace hC := hC.below b12
  replace hY4 := hY4.below b12
  replace hC4 := hC4.below b12
  replace hS := hS.below b12
  replace hD6 := hD6.below b12
  replace hS7 := hS7.below b12
  replace hD7 := hD7.below b12
  have S12 := b12.size
  clear b12 B11
  rw [hgf] at xf
  try rw [hgf]
  clear hgf
  have K13 := qServer_any P3 A3 Z3 Y3 Q3 P4 A4 Z4 Y4 Q4 g3 cg3 n3 c3 m3 cm3 p3 cp3 q3 cq3 cg4 c4 cm4 cp4 cq4 E w12 hY hY4
  refine K13.mono ?_
  clear K13
  rintro e w13 ⟨rfl, b13⟩
  have B13 := B12.trans (b13.mono B12.size)
  replace xx := bxb xx b13
  replace xt := bxb xt b13
  replace xy := bxb xy b13
  replace xv := bxb xv b13
  replace xs := bxb xs b13
  replace xf := bxb xf b13
  replace hX := hX.below b13
  replace hT := hT.below b13
  replace hY := hY.below b13
  replace hC := hC.below b13
  replace hY4 := hY4.below b13
  replace hC4 := hC4.below b13
  replace hS := hS.below b13
  replace hD6 := hD6.below b13
  replace hS7 := hS7.below b13
  replace hD7 := hD7.below b13
  have S13 := b13.size
  clear b13 B12
  clear hY4
  clear xv
  go_wp2_with fail
  have K14 := qInts_any RB3 RB4 nb3 cb3 nb4 cb4 KC KC w13 hC hC4
  refine K14.mono ?_
  clear K14
  rintro e w14 ⟨rfl, b14⟩
  rw [kq]
  have B14 := B13.trans (b14.mono B13.size)
  replace xx := bxb xx b14
  replace xt := bxb xt b14
  replace xy := bxb xy b14
  replace xs := bxb xs b14
  replace xf := bxb xf b14
  replace hX := hX.below b14
  replace hT := hT.below b14
  replace hY := hY.below b14
  replace hC := hC.below b14
  replace hC4 := hC4.below b14
  replace hS := hS.below b14
  replace hD6 := hD6.below b14
  replace hS7 := hS7.below b14
  replace hD7 := hD7.below b14
  have S14 := b14.size
  clear b14 B13
  clear hC4
  go_wp2_with fail
  have K15 := qInts_any RB6 RB7 nb6 cb6 nb7 cb7 LL LL w14 hD6 hD7
  refine K15.mono ?_
  clear K15
  rintro e w15 ⟨rfl, b15⟩
  rw [kl]
  have B15 := B14.trans (b15.mono B14.size)
  replace xx := bxb xx b15
  replace xt := bxb xt b15
  replace xy := bxb xy b15
  replace xs := bxb xs b15
  replace xf := bxb xf b15
  replace hX := hX.below b15
  replace hT := hT.below b15
  replace hY := hY.below b15
  replace hC := hC.below b15
  replace hS := hS.below b15
  replace hD6 := hD6.below b15
  replace hS7 := hS7.below b15
  replace hD7 := hD7.below b15
  have S15 := b15.size
  clear b15 B14
  clear hD6 hD7
  have cs0 := bxc xs 0 _ rfl
  have cs1 := bxc xs 1 _ rfl
  have cs2 := bxc xs 2 _ rfl
  have cs3 := bxc xs 3 _ rfl
  have cs4 := bxc xs 4 _ rfl
  have cs5 := bxc xs 5 _ rfl
  have cs6 := bxc xs 6 _ rfl
  have cs7 := bxc xs 7 _ rfl
  have cs8 := bxc xs 8 _ rfl
  have cs9 := bxc xs 9 _ rfl
  have cs10 := bxc xs 10 _ rfl
  have cs11 := bxc xs 11 _ rfl
  have cs12 := bxc xs 12 _ rfl
  have cs13 := bxc xs 13 _ rfl
  have ls := lt_of_block xs
  have cf0 := bxc xf 0 _ rfl
  have cf1 := bxc xf 1 _ rfl
  have cf2 := bxc xf 2 _ rfl
  have cf3 := bxc xf 3 _ rfl
  have cf4 := bxc xf 4 _ rfl
  have cf5 := bxc xf 5 _ rfl
  have cf6 := bxc xf 6 _ rfl
  have cf7 := bxc xf 7 _ rfl
  have cf8 := bxc xf 8 _ rfl
  have cf9 := bxc xf 9 _ rfl
  have cf10 := bxc xf 10 _ rfl
  have cf11 := bxc xf 11 _ rfl
  have cf12 := bxc xf 12 _ rfl
  have cf13 := bxc xf 13 _ rfl
  have lf := lt_of_block xf
  go_wp2_with fail
  clear cs0 cs1 cs2 cs3 cs4 cs5 cs6 cs7 cs8 cs9 cs10 cs11 cs12 cs13 ls cf0 cf1 cf2 cf3 cf4 cf5 cf6 cf7 cf8 cf9 cf10 cf11 cf12 cf13 lf
  have K16 := qServer_any P6 A6 Z6 Y6 Q6 P7 A7 Z7 Y7 Q7 g6 cg6 n6 c6 m6 cm6 p6 cp6 q6 cq6 cg7 c7 cm7 cp7 cq7 E6 w15 hS hS7
  refine K16.mono ?_
  clear K16
  rintro e w16 ⟨rfl, b16⟩
  have B16 := B15.trans (b16.mono B15.size)
  replace xx := bxb xx b16
  replace xt := bxb xt b16
  replace xy := bxb xy b16
  replace xs := bxb xs b16
  replace xf := bxb xf b16
  replace hX := hX.below b16
  replace hT := hT.below b16
  replace hY := hY.below b16
  replace hC := hC.below b16
  replace hS := hS.below b16
  replace hS7 := hS7.below b16
  have S16 := b16.size
  clear b16 B15
  clear hS7
  clear xf
  clear k1 k2 k3
  go_upto_region 11 with (fail)
  go_cut [121] (fun v wx => v = .bool false ∧ Below w16.heap.size w16 wx)
  case first =>
    have BX := Below.refl w16.heap.size w16
    cases BB
    · go_wp2_with fail
      go_meet
      exact ⟨rfl, BX⟩
    · have HsS := Lib.hid (aaD_sv HBB.out)
      rw [← HhE6.out] at HsS
      have cs0 := bxc xs 0 _ rfl
      have cs1 := bxc xs 1 _ rfl
      have cs2 := bxc xs 2 _ rfl
      have cs3 := bxc xs 3 _ rfl
      have cs4 := bxc xs 4 _ rfl
      have cs5 := bxc xs 5 _ rfl
      have cs6 := bxc xs 6 _ rfl
      have cs7 := bxc xs 7 _ rfl
      have cs8 := bxc xs 8 _ rfl
      have cs9 := bxc xs 9 _ rfl
      have cs10 := bxc xs 10 _ rfl
      have cs11 := bxc xs 11 _ rfl
      have cs12 := bxc xs 12 _ rfl
      have cs13 := bxc xs 13 _ rfl
      have ls := lt_of_block xs
      go_wp2_with fail
      clear cs0 cs1 cs2 cs3 cs4 cs5 cs6 cs7 cs8 cs9 cs10 cs11 cs12 cs13 ls
      have K := IsServer_any P6 A6 Z6 Y6 Q6 g6 cg6 n6 c6 m6 cm6 p6 cp6 q6 cq6 E6 w16 hS.hcp hS.hcq hS.sur hS.plan hS.asked
      refine K.mono ?_
      clear K
      rintro e w17 ⟨rfl, b17⟩
      rw [HsS.out]
      go_wp2_with fail
      go_meet
      exact ⟨rfl, b17⟩
  case rest =>
    obtain ⟨rfl, hbc⟩ := hcut
    clear hS
    clear xs
    have B17 := B16.trans (hbc.mono B16.size)
    replace xx := bxb xx hbc
    replace xt := bxb xt hbc
    replace xy := bxb xy hbc
    replace hX := hX.below hbc
    replace hT := hT.below hbc
    replace hY := hY.below hbc
    replace hC := hC.below hbc
    have S17 := hbc.size
    clear hbc B16
    clear HhE6 HBB HLL kl
    rename_i K1 HK1 K HK
    have HK2 := Lib.hid HK1
    clear HK1
    refine HK _ _ ?_
    clear HK
    go_wp2_with fail
    exact HK2.out _ _ (servers_rest w wc P A Z Y Q P3 A3 Z3 Y3 Q3 RB3 V U g cg n c m cm p cp q cq g3 cg3 n3 c3 m3 cm3 p3 cp3 q3 cq3 nb3 cb3 tm td tk te D E t gx gy KK OK KC _ _ _ _ _ _ _ _ _ _ _ _ _ _ _ _ _ _ _ _ _ _ _ _ _ _ _ _ _ _ _ _ _ _ _ _ _ _ _ _ _ _ _ _ _ _ _ _ _ _ _ _ _ _ _ _ _ _ _ _ _ _ _ _ _ _ _ _ _ _ _ _ _ _ _ _ _ _ _ _ _ _ _ _ _ _ _ _ _ _ _ _ _ _ _ _ _ _ _ _ _ _ _ _ _ _ _ _ _ _ _ _ _ _ _ _ _ _ _ _ _ _ _ _ _ _ _ _ _ _ _ _ _ _ _ _ _ _ _ _ _ _ _ _ _ _ _ _ _ _ _ _ _ _ _ _ _ _ _ _ _ _ _ _ _ _ _ _ _ _ _ _ _ _ _ _ _ _ _ _ _ _ _ _ _ _ _ _ _ _ _ _ _ _ _ _ _ _ _ _ B17 hX hT hY hC xx xt xy HOK.out HKK.out HKC.out HhE.out hq)
end Go.Proofs.YtfanpbfmnckmnaaGreat
