/- The walk of the law FnExactOpenTables, printed by gex3.py. -/
import Derived.Test.YtfanpbfmnckmnaaGreatPubB
import Derived.Test.YtfanpbfmnckmnaaGreatTlD
import Derived.Test.YtfanpbfmnckmnaaGreatTlE
namespace Go.Proofs.YtfanpbfmnckmnaaGreat
open Go.RowKit

set_option maxRecDepth 100000 in
set_option maxHeartbeats 8000000 in
theorem walk_FnExactOpenTables (P A Z Y Q : Option Addr) (g cg n c m cm p cp q cq : Nat) (D : SvD) (w : World) (hA : LawSv w P A Z Y Q g n m p q D) (hb : SvBd 9223372036854775807 g n m p q D) :
    Calls Tryz.prog 7 #[.agg #[.slice P g cg, .slice A n c, .slice Z m cm, .slice Y p cp, .int .i64 D.cost.a, .int .i64 D.cost.b, .int .i64 D.cost.c, .int .i64 D.cost.d, .int .i64 D.bud.a, .int .i64 D.bud.b, .int .i64 D.bud.c, .int .i64 D.bud.d, .int .i64 D.floor, .slice Q q cq]] w fun e w' => e = .returned (.bool true) ∧ Below w.heap.size w w' := by
  have b1 := below_new w (.cells #[.slice P g cg, .slice A n c, .slice Z m cm, .slice Y p cp, .int .i64 D.cost.a, .int .i64 D.cost.b, .int .i64 D.cost.c, .int .i64 D.cost.d, .int .i64 D.bud.a, .int .i64 D.bud.b, .int .i64 D.bud.c, .int .i64 D.bud.d, .int .i64 D.floor, .slice Q q cq] 33)
  have Xa := Lib.hid (box_new w #[.slice P g cg, .slice A n c, .slice Z m cm, .slice Y p cp, .int .i64 D.cost.a, .int .i64 D.cost.b, .int .i64 D.cost.c, .int .i64 D.cost.d, .int .i64 D.bud.a, .int .i64 D.bud.b, .int .i64 D.bud.c, .int .i64 D.bud.d, .int .i64 D.floor, .slice Q q cq] 33)
  have HBD0 := Lib.hid hb
  have HA := Lib.hid hA
  have sa : w.heap.size < (w.alloc (.cells #[.slice P g cg, .slice A n c, .slice Z m cm, .slice Y p cp, .int .i64 D.cost.a, .int .i64 D.cost.b, .int .i64 D.cost.c, .int .i64 D.cost.d, .int .i64 D.bud.a, .int .i64 D.bud.b, .int .i64 D.bud.c, .int .i64 D.bud.d, .int .i64 D.floor, .slice Q q cq] 33)).heap.size := lt_of_block Xa.out
  have B1 := Lib.hid b1
  clear b1 hb hA
  go_enter Tryz.func7, Tryz.ntmps7
  have la := lt_of_block Xa.out
  have ca0 := box_cell Xa.out 0 _ rfl
  have ca1 := box_cell Xa.out 1 _ rfl
  have ca2 := box_cell Xa.out 2 _ rfl
  have ca3 := box_cell Xa.out 3 _ rfl
  have ca4 := box_cell Xa.out 4 _ rfl
  have ca5 := box_cell Xa.out 5 _ rfl
  have ca6 := box_cell Xa.out 6 _ rfl
  have ca7 := box_cell Xa.out 7 _ rfl
  have ca8 := box_cell Xa.out 8 _ rfl
  have ca9 := box_cell Xa.out 9 _ rfl
  have ca10 := box_cell Xa.out 10 _ rfl
  have ca11 := box_cell Xa.out 11 _ rfl
  have ca12 := box_cell Xa.out 12 _ rfl
  have ca13 := box_cell Xa.out 13 _ rfl
  go_wp2_with fail
  clear la ca0 ca1 ca2 ca3 ca4 ca5 ca6 ca7 ca8 ca9 ca10 ca11 ca12 ca13
  generalize w.alloc (.cells #[.slice P g cg, .slice A n c, .slice Z m cm, .slice Y p cp, .int .i64 D.cost.a, .int .i64 D.cost.b, .int .i64 D.cost.c, .int .i64 D.cost.d, .int .i64 D.bud.a, .int .i64 D.bud.b, .int .i64 D.bud.c, .int .i64 D.bud.d, .int .i64 D.floor, .slice Q q cq] 33) = w1 at *
  refine (szServer_any P A Z Y Q g cg n c m cm p cp q cq D 1048576 _ (HA.out.below B1.out) HBD0.out (by omega) (by omega)).mono ?_
  rintro e w2 ⟨⟨l1, rfl, p1, q1, k1⟩, b2⟩
  have B2 := Lib.hid (B1.out.trans (b2.mono B1.out.size))
  have S2 := b2.size
  replace Xa := Lib.hid (box_below Xa.out b2)
  clear b2 B1
  by_cases g1 : l1 < 0
  · go_wp2
    go_ret
    exact ⟨rfl, B2.out⟩
  have HBD := Lib.hid (k1 (by omega))
  clear k1 HBD0 p1 q1
  have hpl := HBD.out.bp
  have hop := opV_len D
  have HPL := Lib.hid HA.out.plan.1
  rw [HPL.out] at hop
  have la := lt_of_block Xa.out
  have ca0 := box_cell Xa.out 0 _ rfl
  have ca1 := box_cell Xa.out 1 _ rfl
  have ca2 := box_cell Xa.out 2 _ rfl
  have ca3 := box_cell Xa.out 3 _ rfl
  have ca4 := box_cell Xa.out 4 _ rfl
  have ca5 := box_cell Xa.out 5 _ rfl
  have ca6 := box_cell Xa.out 6 _ rfl
  have ca7 := box_cell Xa.out 7 _ rfl
  have ca8 := box_cell Xa.out 8 _ rfl
  have ca9 := box_cell Xa.out 9 _ rfl
  have ca10 := box_cell Xa.out 10 _ rfl
  have ca11 := box_cell Xa.out 11 _ rfl
  have ca12 := box_cell Xa.out 12 _ rfl
  have ca13 := box_cell Xa.out 13 _ rfl
  go_wp2_with fail
  clear la ca0 ca1 ca2 ca3 ca4 ca5 ca6 ca7 ca8 ca9 ca10 ca11 ca12 ca13
  refine (toServer_law P A Z Y Q g cg n c m cm p cp q cq D _ (HA.out.below B2.out) HBD.out).mono ?_
  rintro e w3 ⟨P1, A1, Z1, Y1, Q1, cg1, c1, cm1, cp1, cq1, rfl, o1, b3⟩
  have B3 := Lib.hid (B2.out.trans (b3.mono B2.out.size))
  have S3 := b3.size
  replace Xa := Lib.hid (box_below Xa.out b3)
  clear b3 B2
  replace o1 := Lib.hid o1
  go_wp2_with fail
  refine (specOpenTables_law P1 A1 Z1 Y1 Q1 g cg1 n c1 m cm1 p cp1 q cq1 D _ (o1.out.read HBD.out)).mono ?_
  rintro e w4 ⟨A_w, c_w, rfl, o_w, b4⟩
  have B4 := Lib.hid (B3.out.trans (b4.mono B3.out.size))
  have S4 := b4.size
  replace o1 := Lib.hid (o1.out.below b4)
  replace Xa := Lib.hid (box_below Xa.out b4)
  clear b4 B3
  replace o_w := Lib.hid o_w
  have s_w := o_w.out.small
  clear o1
  have la := lt_of_block Xa.out
  have ca0 := box_cell Xa.out 0 _ rfl
  have ca1 := box_cell Xa.out 1 _ rfl
  have ca2 := box_cell Xa.out 2 _ rfl
  have ca3 := box_cell Xa.out 3 _ rfl
  have ca4 := box_cell Xa.out 4 _ rfl
  have ca5 := box_cell Xa.out 5 _ rfl
  have ca6 := box_cell Xa.out 6 _ rfl
  have ca7 := box_cell Xa.out 7 _ rfl
  have ca8 := box_cell Xa.out 8 _ rfl
  have ca9 := box_cell Xa.out 9 _ rfl
  have ca10 := box_cell Xa.out 10 _ rfl
  have ca11 := box_cell Xa.out 11 _ rfl
  have ca12 := box_cell Xa.out 12 _ rfl
  have ca13 := box_cell Xa.out 13 _ rfl
  go_wp2_with fail
  clear la ca0 ca1 ca2 ca3 ca4 ca5 ca6 ca7 ca8 ca9 ca10 ca11 ca12 ca13
  refine (toServer_law P A Z Y Q g cg n c m cm p cp q cq D _ (HA.out.below B4.out) HBD.out).mono ?_
  rintro e w5 ⟨P2, A2, Z2, Y2, Q2, cg2, c2, cm2, cp2, cq2, rfl, o2, b5⟩
  have B5 := Lib.hid (B4.out.trans (b5.mono B4.out.size))
  have S5 := b5.size
  replace o_w := Lib.hid (o_w.out.below b5)
  replace Xa := Lib.hid (box_below Xa.out b5)
  clear b5 B4
  replace o2 := Lib.hid o2
  have b6 := below_new w5 (.cells #[.slice P2 g cg2, .slice A2 n c2, .slice Z2 m cm2, .slice Y2 p cp2, .int .i64 D.cost.a, .int .i64 D.cost.b, .int .i64 D.cost.c, .int .i64 D.cost.d, .int .i64 D.bud.a, .int .i64 D.bud.b, .int .i64 D.bud.c, .int .i64 D.bud.d, .int .i64 D.floor, .slice Q2 q cq2] 44)
  have Xx := Lib.hid (box_new w5 #[.slice P2 g cg2, .slice A2 n c2, .slice Z2 m cm2, .slice Y2 p cp2, .int .i64 D.cost.a, .int .i64 D.cost.b, .int .i64 D.cost.c, .int .i64 D.cost.d, .int .i64 D.bud.a, .int .i64 D.bud.b, .int .i64 D.bud.c, .int .i64 D.bud.d, .int .i64 D.floor, .slice Q2 q cq2] 44)
  have sx : w5.heap.size < (w5.alloc (.cells #[.slice P2 g cg2, .slice A2 n c2, .slice Z2 m cm2, .slice Y2 p cp2, .int .i64 D.cost.a, .int .i64 D.cost.b, .int .i64 D.cost.c, .int .i64 D.cost.d, .int .i64 D.bud.a, .int .i64 D.bud.b, .int .i64 D.bud.c, .int .i64 D.bud.d, .int .i64 D.floor, .slice Q2 q cq2] 44)).heap.size := lt_of_block Xx.out
  have B6 := Lib.hid (B5.out.trans (b6.mono B5.out.size))
  have S6 := b6.size
  replace o_w := Lib.hid (o_w.out.below b6)
  replace o2 := Lib.hid (o2.out.below b6)
  replace Xa := Lib.hid (box_below Xa.out b6)
  clear b6 B5
  have lx := lt_of_block Xx.out
  have cx0 := box_cell Xx.out 0 _ rfl
  have cx1 := box_cell Xx.out 1 _ rfl
  have cx2 := box_cell Xx.out 2 _ rfl
  have cx3 := box_cell Xx.out 3 _ rfl
  have cx4 := box_cell Xx.out 4 _ rfl
  have cx5 := box_cell Xx.out 5 _ rfl
  have cx6 := box_cell Xx.out 6 _ rfl
  have cx7 := box_cell Xx.out 7 _ rfl
  have cx8 := box_cell Xx.out 8 _ rfl
  have cx9 := box_cell Xx.out 9 _ rfl
  have cx10 := box_cell Xx.out 10 _ rfl
  have cx11 := box_cell Xx.out 11 _ rfl
  have cx12 := box_cell Xx.out 12 _ rfl
  have cx13 := box_cell Xx.out 13 _ rfl
  go_wp2_with fail
  clear lx cx0 cx1 cx2 cx3 cx4 cx5 cx6 cx7 cx8 cx9 cx10 cx11 cx12 cx13
  generalize w5.alloc (.cells #[.slice P2 g cg2, .slice A2 n c2, .slice Z2 m cm2, .slice Y2 p cp2, .int .i64 D.cost.a, .int .i64 D.cost.b, .int .i64 D.cost.c, .int .i64 D.cost.d, .int .i64 D.bud.a, .int .i64 D.bud.b, .int .i64 D.bud.c, .int .i64 D.bud.d, .int .i64 D.floor, .slice Q2 q cq2] 44) = w6 at *
  refine (implOpenTables_law P2 A2 Z2 Y2 Q2 g cg2 n c2 m cm2 p cp2 q cq2 D _ (o2.out.read HBD.out)).mono ?_
  rintro e w7 ⟨A_g, c_g, rfl, o_g, b7⟩
  have B7 := Lib.hid (B6.out.trans (b7.mono B6.out.size))
  have S7 := b7.size
  replace o_w := Lib.hid (o_w.out.below b7)
  replace o2 := Lib.hid (o2.out.below b7)
  replace Xa := Lib.hid (box_below Xa.out b7)
  replace Xx := Lib.hid (box_below Xx.out b7)
  clear b7 B6
  replace o_g := Lib.hid o_g
  have s_g := o_g.out.small
  go_wp2_with fail
  refine (eqIntS_law _ _ _ _ _ _ _ o_g.out.ints o_w.out.ints o_g.out.small).mono ?_
  rintro e w8 ⟨rfl, b8⟩
  have B8 := Lib.hid (B7.out.trans (b8.mono B7.out.size))
  have S8 := b8.size
  replace o_w := Lib.hid (o_w.out.below b8)
  replace o2 := Lib.hid (o2.out.below b8)
  replace o_g := Lib.hid (o_g.out.below b8)
  replace Xa := Lib.hid (box_below Xa.out b8)
  replace Xx := Lib.hid (box_below Xx.out b8)
  clear b8 B7
  have hbb : (svB D != svB D) = false := by simp
  have HL := Lib.hid o2.out.law
  have la := lt_of_block Xa.out
  have lx := lt_of_block Xx.out
  go_wp2_with fail
  clear la lx
  have sw := B8.out.size
  have BL := (Below.refl w8.heap.size w8).drew
  have xa : (World.drew w8).heap[w.heap.size]? = _ := Xa.out
  have xx9 : (World.drew w8).heap[w5.heap.size]? = _ := Xx.out
  have la := lt_of_block xa
  have lx := lt_of_block xx9
  go_region_held3 (fun w' => w'.cell? ⟨w.heap.size, 0, none⟩ = some (.slice P g cg) ∧ w'.cell? ⟨w.heap.size, 1, none⟩ = some (.slice A n c) ∧ w'.cell? ⟨w.heap.size, 2, none⟩ = some (.slice Z m cm) ∧ w'.cell? ⟨w.heap.size, 3, none⟩ = some (.slice Y p cp) ∧ w'.cell? ⟨w.heap.size, 4, none⟩ = some (.int .i64 D.cost.a) ∧ w'.cell? ⟨w.heap.size, 5, none⟩ = some (.int .i64 D.cost.b) ∧ w'.cell? ⟨w.heap.size, 6, none⟩ = some (.int .i64 D.cost.c) ∧ w'.cell? ⟨w.heap.size, 7, none⟩ = some (.int .i64 D.cost.d) ∧ w'.cell? ⟨w.heap.size, 8, none⟩ = some (.int .i64 D.bud.a) ∧ w'.cell? ⟨w.heap.size, 9, none⟩ = some (.int .i64 D.bud.b) ∧ w'.cell? ⟨w.heap.size, 10, none⟩ = some (.int .i64 D.bud.c) ∧ w'.cell? ⟨w.heap.size, 11, none⟩ = some (.int .i64 D.bud.d) ∧ w'.cell? ⟨w.heap.size, 12, none⟩ = some (.int .i64 D.floor) ∧ w'.cell? ⟨w.heap.size, 13, none⟩ = some (.slice Q q cq) ∧ w'.cell? ⟨w5.heap.size, 0, none⟩ = some (.slice P2 g cg2) ∧ w'.cell? ⟨w5.heap.size, 1, none⟩ = some (.slice A2 n c2) ∧ w'.cell? ⟨w5.heap.size, 2, none⟩ = some (.slice Z2 m cm2) ∧ w'.cell? ⟨w5.heap.size, 3, none⟩ = some (.slice Y2 p cp2) ∧ w'.cell? ⟨w5.heap.size, 4, none⟩ = some (.int .i64 D.cost.a) ∧ w'.cell? ⟨w5.heap.size, 5, none⟩ = some (.int .i64 D.cost.b) ∧ w'.cell? ⟨w5.heap.size, 6, none⟩ = some (.int .i64 D.cost.c) ∧ w'.cell? ⟨w5.heap.size, 7, none⟩ = some (.int .i64 D.cost.d) ∧ w'.cell? ⟨w5.heap.size, 8, none⟩ = some (.int .i64 D.bud.a) ∧ w'.cell? ⟨w5.heap.size, 9, none⟩ = some (.int .i64 D.bud.b) ∧ w'.cell? ⟨w5.heap.size, 10, none⟩ = some (.int .i64 D.bud.c) ∧ w'.cell? ⟨w5.heap.size, 11, none⟩ = some (.int .i64 D.bud.d) ∧ w'.cell? ⟨w5.heap.size, 12, none⟩ = some (.int .i64 D.floor) ∧ w'.cell? ⟨w5.heap.size, 13, none⟩ = some (.slice Q2 q cq2)) (exact ⟨box_cell xa 0 _ rfl, box_cell xa 1 _ rfl, box_cell xa 2 _ rfl, box_cell xa 3 _ rfl, box_cell xa 4 _ rfl, box_cell xa 5 _ rfl, box_cell xa 6 _ rfl, box_cell xa 7 _ rfl, box_cell xa 8 _ rfl, box_cell xa 9 _ rfl, box_cell xa 10 _ rfl, box_cell xa 11 _ rfl, box_cell xa 12 _ rfl, box_cell xa 13 _ rfl, box_cell xx9 0 _ rfl, box_cell xx9 1 _ rfl, box_cell xx9 2 _ rfl, box_cell xx9 3 _ rfl, box_cell xx9 4 _ rfl, box_cell xx9 5 _ rfl, box_cell xx9 6 _ rfl, box_cell xx9 7 _ rfl, box_cell xx9 8 _ rfl, box_cell xx9 9 _ rfl, box_cell xx9 10 _ rfl, box_cell xx9 11 _ rfl, box_cell xx9 12 _ rfl, box_cell xx9 13 _ rfl⟩) (first
      | (go_at_call 12; refine (toServer_law P A Z Y Q g cg n c m cm p cp q cq D _ (HA.out.below (B8.out.trans (BL.mono sw))) HBD.out).mono ?_; rintro e wq ⟨P3, A3, Z3, Y3, Q3, cg3, c3, cm3, cp3, cq3, rfl, o3, bq⟩; have r3 := o3.law; clear o3; replace xa := box_below xa bq; replace xx9 := box_below xx9 bq; replace BL := BL.trans (bq.mono BL.size); clear bq)
      | (go_at_call 14; refine (eqServer_any P2 A2 Z2 Y2 Q2 g cg2 n c2 m cm2 p cp2 q cq2 D P3 A3 Z3 Y3 Q3 cg3 c3 cm3 cp3 cq3 _ (HL.out.below BL) r3 HBD.out).mono ?_; rintro e wq ⟨rfl, bq⟩; replace xa := box_below xa bq; replace xx9 := box_below xx9 bq; replace BL := BL.trans (bq.mono BL.size); clear bq)
      | fail)
  have b9 := BL
  clear BL xa xx9 la lx HL r3 sw
  obtain ⟨w9, hw9⟩ : ∃ x : World, x = wq := ⟨_, rfl⟩
  subst hw9
  have B9 := Lib.hid (B8.out.trans (b9.mono B8.out.size))
  have S9 := b9.size
  replace o_w := Lib.hid (o_w.out.below b9)
  replace o2 := Lib.hid (o2.out.below b9)
  replace o_g := Lib.hid (o_g.out.below b9)
  replace Xa := Lib.hid (box_below Xa.out b9)
  replace Xx := Lib.hid (box_below Xx.out b9)
  clear b9 B8
  have lx := lt_of_block Xx.out
  have cx0 := box_cell Xx.out 0 _ rfl
  have cx1 := box_cell Xx.out 1 _ rfl
  have cx2 := box_cell Xx.out 2 _ rfl
  have cx3 := box_cell Xx.out 3 _ rfl
  have cx4 := box_cell Xx.out 4 _ rfl
  have cx5 := box_cell Xx.out 5 _ rfl
  have cx6 := box_cell Xx.out 6 _ rfl
  have cx7 := box_cell Xx.out 7 _ rfl
  have cx8 := box_cell Xx.out 8 _ rfl
  have cx9 := box_cell Xx.out 9 _ rfl
  have cx10 := box_cell Xx.out 10 _ rfl
  have cx11 := box_cell Xx.out 11 _ rfl
  have cx12 := box_cell Xx.out 12 _ rfl
  have cx13 := box_cell Xx.out 13 _ rfl
  go_wp2_with fail
  clear lx cx0 cx1 cx2 cx3 cx4 cx5 cx6 cx7 cx8 cx9 cx10 cx11 cx12 cx13
  refine (markServer_law P2 A2 Z2 Y2 Q2 g cg2 n c2 m cm2 p cp2 q cq2 D _ _ 1 _ o2.out HBD.out (by omega) (by omega) (by omega)).mono ?_
  rintro e w10 ⟨⟨r1, rfl, x1, y1⟩, b10⟩
  have B10 := Lib.hid (b10.below B9.out (by omega) B9.out.size)
  have S10 := b10.size
  replace o_w := Lib.hid (o_w.out.chg b10 (by omega))
  replace o_g := Lib.hid (o_g.out.chg b10 (by omega))
  have lxa := lt_of_block Xa.out
  replace Xa := Lib.hid ((b10.block _ lxa (by omega)).trans Xa.out)
  have lxx := lt_of_block Xx.out
  replace Xx := Lib.hid ((b10.block _ lxx (by omega)).trans Xx.out)
  clear b10 B9
  clear o2
  go_wp2_with fail
  refine (eqIntS_law _ _ _ _ _ _ _ o_g.out.ints o_w.out.ints o_g.out.small).mono ?_
  rintro e w11 ⟨rfl, b11⟩
  have B11 := Lib.hid (B10.out.trans (b11.mono B10.out.size))
  have S11 := b11.size
  replace o_w := Lib.hid (o_w.out.below b11)
  replace o_g := Lib.hid (o_g.out.below b11)
  replace Xa := Lib.hid (box_below Xa.out b11)
  replace Xx := Lib.hid (box_below Xx.out b11)
  clear b11 B10
  go_wp2_with fail
  refine (markIntS_law _ _ _ _ _ _ _ _ o_g.out (by omega) (by omega)).mono ?_
  rintro e w12 ⟨rfl, o2_g, b12⟩
  have B12 := Lib.hid (b12.below B11.out (by omega) B11.out.size)
  have S12 := b12.size
  replace o_w := Lib.hid (o_w.out.chg b12 (by omega))
  have lxa := lt_of_block Xa.out
  replace Xa := Lib.hid ((b12.block _ lxa (by omega)).trans Xa.out)
  have lxx := lt_of_block Xx.out
  replace Xx := Lib.hid ((b12.block _ lxx (by omega)).trans Xx.out)
  clear b12 B11
  replace o_g := Lib.hid o2_g
  clear o2_g
  go_wp2_with fail
  refine (heldIntS_law _ _ _ _ _ o_g.out.ints o_g.out.small (by omega) (by omega)).mono ?_
  rintro e w13 ⟨rfl, b13⟩
  have B13 := Lib.hid (B12.out.trans (b13.mono B12.out.size))
  have S13 := b13.size
  replace o_w := Lib.hid (o_w.out.below b13)
  replace o_g := Lib.hid (o_g.out.below b13)
  replace Xa := Lib.hid (box_below Xa.out b13)
  replace Xx := Lib.hid (box_below Xx.out b13)
  clear b13 B12
  have la := lt_of_block Xa.out
  have ca0 := box_cell Xa.out 0 _ rfl
  have ca1 := box_cell Xa.out 1 _ rfl
  have ca2 := box_cell Xa.out 2 _ rfl
  have ca3 := box_cell Xa.out 3 _ rfl
  have ca4 := box_cell Xa.out 4 _ rfl
  have ca5 := box_cell Xa.out 5 _ rfl
  have ca6 := box_cell Xa.out 6 _ rfl
  have ca7 := box_cell Xa.out 7 _ rfl
  have ca8 := box_cell Xa.out 8 _ rfl
  have ca9 := box_cell Xa.out 9 _ rfl
  have ca10 := box_cell Xa.out 10 _ rfl
  have ca11 := box_cell Xa.out 11 _ rfl
  have ca12 := box_cell Xa.out 12 _ rfl
  have ca13 := box_cell Xa.out 13 _ rfl
  go_wp2_with fail
  clear la ca0 ca1 ca2 ca3 ca4 ca5 ca6 ca7 ca8 ca9 ca10 ca11 ca12 ca13
  refine (toServer_law P A Z Y Q g cg n c m cm p cp q cq D _ (HA.out.below B13.out) HBD.out).mono ?_
  rintro e w14 ⟨P4, A4, Z4, Y4, Q4, cg4, c4, cm4, cp4, cq4, rfl, o4, b14⟩
  have B14 := Lib.hid (B13.out.trans (b14.mono B13.out.size))
  have S14 := b14.size
  replace o_w := Lib.hid (o_w.out.below b14)
  replace o_g := Lib.hid (o_g.out.below b14)
  replace Xa := Lib.hid (box_below Xa.out b14)
  replace Xx := Lib.hid (box_below Xx.out b14)
  clear b14 B13
  replace o4 := Lib.hid o4
  go_wp2_with fail
  refine (implOpenTables_law P4 A4 Z4 Y4 Q4 g cg4 n c4 m cm4 p cp4 q cq4 D _ (o4.out.read HBD.out)).mono ?_
  rintro e w15 ⟨A_h, c_h, rfl, o_h, b15⟩
  have B15 := Lib.hid (B14.out.trans (b15.mono B14.out.size))
  have S15 := b15.size
  replace o_w := Lib.hid (o_w.out.below b15)
  replace o_g := Lib.hid (o_g.out.below b15)
  replace o4 := Lib.hid (o4.out.below b15)
  replace Xa := Lib.hid (box_below Xa.out b15)
  replace Xx := Lib.hid (box_below Xx.out b15)
  clear b15 B14
  replace o_h := Lib.hid o_h
  have s_h := o_h.out.small
  clear o4
  go_wp2_with fail
  refine (eqIntS_law _ _ _ _ _ _ _ o_h.out.ints o_w.out.ints o_h.out.small).mono ?_
  rintro e w16 ⟨rfl, b16⟩
  have B16 := Lib.hid (B15.out.trans (b16.mono B15.out.size))
  have S16 := b16.size
  replace o_w := Lib.hid (o_w.out.below b16)
  replace o_g := Lib.hid (o_g.out.below b16)
  replace o_h := Lib.hid (o_h.out.below b16)
  replace Xa := Lib.hid (box_below Xa.out b16)
  replace Xx := Lib.hid (box_below Xx.out b16)
  clear b16 B15
  go_wp2_with fail
  refine (heldIntS_law _ _ _ _ _ o_g.out.ints o_g.out.small (by omega) (by omega)).mono ?_
  rintro e w17 ⟨rfl, b17⟩
  have B17 := Lib.hid (B16.out.trans (b17.mono B16.out.size))
  have S17 := b17.size
  replace o_w := Lib.hid (o_w.out.below b17)
  replace o_g := Lib.hid (o_g.out.below b17)
  replace o_h := Lib.hid (o_h.out.below b17)
  replace Xa := Lib.hid (box_below Xa.out b17)
  replace Xx := Lib.hid (box_below Xx.out b17)
  clear b17 B16
  go_wp2
  go_ret
  exact ⟨rfl, B17.out⟩
end Go.Proofs.YtfanpbfmnckmnaaGreat
