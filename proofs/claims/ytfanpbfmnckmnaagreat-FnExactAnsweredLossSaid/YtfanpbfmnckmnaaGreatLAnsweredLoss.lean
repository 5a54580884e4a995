/- The walk of the law FnExactAnsweredLoss, printed by gex2.py. -/
import Derived.Test.YtfanpbfmnckmnaaGreatPubA
import Derived.Test.YtfanpbfmnckmnaaGreatTlD
import Derived.Deep.CutRange
namespace Go.Proofs.YtfanpbfmnckmnaaGreat
open Go.RowKit

set_option maxRecDepth 100000 in
set_option maxHeartbeats 4000000 in
theorem walk_FnExactAnsweredLoss (P A Z Y Q : Option Addr) (g cg n c m cm p cp q cq : Nat) (D : SvD) (w : World) (hA : LawSv w P A Z Y Q g n m p q D) (hb : SvBd 9223372036854775807 g n m p q D) :
    Calls Tryz.prog 4 #[.agg #[.slice P g cg, .slice A n c, .slice Z m cm, .slice Y p cp, .int .i64 D.cost.a, .int .i64 D.cost.b, .int .i64 D.cost.c, .int .i64 D.cost.d, .int .i64 D.bud.a, .int .i64 D.bud.b, .int .i64 D.bud.c, .int .i64 D.bud.d, .int .i64 D.floor, .slice Q q cq]] w fun e w' => e = .returned (.bool true) ∧ Below w.heap.size w w' := by
  cases ho : ansO D with
  | none =>
    have HO := Lib.hid ho
    clear ho
    have b0 := below_new w (.cells #[.slice P g cg, .slice A n c, .slice Z m cm, .slice Y p cp, .int .i64 D.cost.a, .int .i64 D.cost.b, .int .i64 D.cost.c, .int .i64 D.cost.d, .int .i64 D.bud.a, .int .i64 D.bud.b, .int .i64 D.bud.c, .int .i64 D.bud.d, .int .i64 D.floor, .slice Q q cq] 33)
    have xa := box_new w #[.slice P g cg, .slice A n c, .slice Z m cm, .slice Y p cp, .int .i64 D.cost.a, .int .i64 D.cost.b, .int .i64 D.cost.c, .int .i64 D.cost.d, .int .i64 D.bud.a, .int .i64 D.bud.b, .int .i64 D.bud.c, .int .i64 D.bud.d, .int .i64 D.floor, .slice Q q cq] 33
    have Xa := Lib.hid xa
    have HB := Lib.hid b0
    have HBD0 := Lib.hid hb
    have HA := Lib.hid (hA.below b0)
    clear b0 hb xa hA
    go_enter Tryz.func4, Tryz.ntmps4
    have la := lt_of_block Xa.out
    have ca0 := box_cell Xa.out 0 _ rfl
    have ca1 := box_cell Xa.out 1 _ rfl
    have ca2 := box_cell Xa.out 2 _ rfl
    have ca3 := box_cell Xa.out 3 _ rfl
    have ca4 := box_cell Xa.out 4 _ rfl
    have ca5 := box_cell Xa.out 5 _ rfl
    have ca6 := box_cell Xa.out 6 _ rfl
    have ca7 := box_cell Xa.out 7 _ rfl
    have ca8 := box_cell Xa.out 8 _ rfl
    have ca9 := box_cell Xa.out 9 _ rfl
    have ca10 := box_cell Xa.out 10 _ rfl
    have ca11 := box_cell Xa.out 11 _ rfl
    have ca12 := box_cell Xa.out 12 _ rfl
    have ca13 := box_cell Xa.out 13 _ rfl
    go_wp2_with fail
    clear la ca0 ca1 ca2 ca3 ca4 ca5 ca6 ca7 ca8 ca9 ca10 ca11 ca12 ca13
    generalize w.alloc (.cells #[.slice P g cg, .slice A n c, .slice Z m cm, .slice Y p cp, .int .i64 D.cost.a, .int .i64 D.cost.b, .int .i64 D.cost.c, .int .i64 D.cost.d, .int .i64 D.bud.a, .int .i64 D.bud.b, .int .i64 D.bud.c, .int .i64 D.bud.d, .int .i64 D.floor, .slice Q q cq] 33) = w0 at *
    refine (szServer_any P A Z Y Q g cg n c m cm p cp q cq D 1048576 _ HA.out HBD0.out (by omega) (by omega)).mono ?_
    rintro e w1 ⟨⟨l1, rfl, p1, q1, k1⟩, b1⟩
    replace Xa := Lib.hid (box_below Xa.out b1)
    replace HB := Lib.hid (HB.out.trans (b1.mono HB.out.size))
    replace HA := Lib.hid (HA.out.below b1)
    clear b1
    by_cases g1 : l1 < 0
    · go_wp2
      go_ret
      exact ⟨rfl, HB.out⟩
    have HBD := Lib.hid (k1 (by omega))
    clear k1 HBD0
    have la := lt_of_block Xa.out
    have ca0 := box_cell Xa.out 0 _ rfl
    have ca1 := box_cell Xa.out 1 _ rfl
    have ca2 := box_cell Xa.out 2 _ rfl
    have ca3 := box_cell Xa.out 3 _ rfl
    have ca4 := box_cell Xa.out 4 _ rfl
    have ca5 := box_cell Xa.out 5 _ rfl
    have ca6 := box_cell Xa.out 6 _ rfl
    have ca7 := box_cell Xa.out 7 _ rfl
    have ca8 := box_cell Xa.out 8 _ rfl
    have ca9 := box_cell Xa.out 9 _ rfl
    have ca10 := box_cell Xa.out 10 _ rfl
    have ca11 := box_cell Xa.out 11 _ rfl
    have ca12 := box_cell Xa.out 12 _ rfl
    have ca13 := box_cell Xa.out 13 _ rfl
    go_wp2_with fail
    clear la ca0 ca1 ca2 ca3 ca4 ca5 ca6 ca7 ca8 ca9 ca10 ca11 ca12 ca13
    refine (toServer_law P A Z Y Q g cg n c m cm p cp q cq D _ HA.out HBD.out).mono ?_
    rintro e w2 ⟨P1, A1, Z1, Y1, Q1, cg1, c1, cm1, cp1, cq1, rfl, o1, b2⟩
    replace Xa := Lib.hid (box_below Xa.out b2)
    replace HB := Lib.hid (HB.out.trans (b2.mono HB.out.size))
    replace HA := Lib.hid (HA.out.below b2)
    clear b2
    have HR := Lib.hid (o1.read HBD.out)
    clear o1
    go_wp2_with fail
    refine (specAnsweredLoss_law P1 A1 Z1 Y1 Q1 g cg1 n c1 m cm1 p cp1 q cq1 D _ HR.out).mono ?_
    rintro e w3 ⟨he, b3⟩
    obtain rfl : e = .returned (.tuple #[.agg #[.int .i64 0, .int .i64 0, .int .i64 0, .int .i64 0], .bool false]) := by rw [he, HO.out]; rfl
    replace Xa := Lib.hid (box_below Xa.out b3)
    replace HB := Lib.hid (HB.out.trans (b3.mono HB.out.size))
    replace HA := Lib.hid (HA.out.below b3)
    clear b3
    clear HR he
    have b4 := below_new w3 (.cells #[.int .i64 0, .int .i64 0, .int .i64 0, .int .i64 0] 42)
    have Xw := Lib.hid (box_new w3 #[.int .i64 0, .int .i64 0, .int .i64 0, .int .i64 0] 42)
    replace Xa := Lib.hid (box_below Xa.out b4)
    replace HB := Lib.hid (HB.out.trans (b4.mono HB.out.size))
    replace HA := Lib.hid (HA.out.below b4)
    clear b4
    have la := lt_of_block Xa.out
    have ca0 := box_cell Xa.out 0 _ rfl
    have ca1 := box_cell Xa.out 1 _ rfl
    have ca2 := box_cell Xa.out 2 _ rfl
    have ca3 := box_cell Xa.out 3 _ rfl
    have ca4 := box_cell Xa.out 4 _ rfl
    have ca5 := box_cell Xa.out 5 _ rfl
    have ca6 := box_cell Xa.out 6 _ rfl
    have ca7 := box_cell Xa.out 7 _ rfl
    have ca8 := box_cell Xa.out 8 _ rfl
    have ca9 := box_cell Xa.out 9 _ rfl
    have ca10 := box_cell Xa.out 10 _ rfl
    have ca11 := box_cell Xa.out 11 _ rfl
    have ca12 := box_cell Xa.out 12 _ rfl
    have ca13 := box_cell Xa.out 13 _ rfl
    go_wp2_with fail
    clear la ca0 ca1 ca2 ca3 ca4 ca5 ca6 ca7 ca8 ca9 ca10 ca11 ca12 ca13
    generalize w3.alloc (.cells #[.int .i64 0, .int .i64 0, .int .i64 0, .int .i64 0] 42) = w4 at *
    refine (toServer_law P A Z Y Q g cg n c m cm p cp q cq D _ HA.out HBD.out).mono ?_
    rintro e w5 ⟨P2, A2, Z2, Y2, Q2, cg2, c2, cm2, cp2, cq2, rfl, o1, b5⟩
    replace Xa := Lib.hid (box_below Xa.out b5)
    replace Xw := Lib.hid (box_below Xw.out b5)
    replace HB := Lib.hid (HB.out.trans (b5.mono HB.out.size))
    replace HA := Lib.hid (HA.out.below b5)
    clear b5
    have HR := Lib.hid (o1.read HBD.out)
    have HL := Lib.hid o1.law
    clear o1
    have b6 := below_new w5 (.cells #[.slice P2 g cg2, .slice A2 n c2, .slice Z2 m cm2, .slice Y2 p cp2, .int .i64 D.cost.a, .int .i64 D.cost.b, .int .i64 D.cost.c, .int .i64 D.cost.d, .int .i64 D.bud.a, .int .i64 D.bud.b, .int .i64 D.bud.c, .int .i64 D.bud.d, .int .i64 D.floor, .slice Q2 q cq2] 44)
    have Xx := Lib.hid (box_new w5 #[.slice P2 g cg2, .slice A2 n c2, .slice Z2 m cm2, .slice Y2 p cp2, .int .i64 D.cost.a, .int .i64 D.cost.b, .int .i64 D.cost.c, .int .i64 D.cost.d, .int .i64 D.bud.a, .int .i64 D.bud.b, .int .i64 D.bud.c, .int .i64 D.bud.d, .int .i64 D.floor, .slice Q2 q cq2] 44)
    replace Xa := Lib.hid (box_below Xa.out b6)
    replace Xw := Lib.hid (box_below Xw.out b6)
    replace HB := Lib.hid (HB.out.trans (b6.mono HB.out.size))
    replace HA := Lib.hid (HA.out.below b6)
    replace HR := Lib.hid (HR.out.below b6)
    replace HL := Lib.hid (HL.out.below b6)
    clear b6
    have lx := lt_of_block Xx.out
    have cx0 := box_cell Xx.out 0 _ rfl
    have cx1 := box_cell Xx.out 1 _ rfl
    have cx2 := box_cell Xx.out 2 _ rfl
    have cx3 := box_cell Xx.out 3 _ rfl
    have cx4 := box_cell Xx.out 4 _ rfl
    have cx5 := box_cell Xx.out 5 _ rfl
    have cx6 := box_cell Xx.out 6 _ rfl
    have cx7 := box_cell Xx.out 7 _ rfl
    have cx8 := box_cell Xx.out 8 _ rfl
    have cx9 := box_cell Xx.out 9 _ rfl
    have cx10 := box_cell Xx.out 10 _ rfl
    have cx11 := box_cell Xx.out 11 _ rfl
    have cx12 := box_cell Xx.out 12 _ rfl
    have cx13 := box_cell Xx.out 13 _ rfl
    go_wp2_with fail
    clear lx cx0 cx1 cx2 cx3 cx4 cx5 cx6 cx7 cx8 cx9 cx10 cx11 cx12 cx13
    generalize w5.alloc (.cells #[.slice P2 g cg2, .slice A2 n c2, .slice Z2 m cm2, .slice Y2 p cp2, .int .i64 D.cost.a, .int .i64 D.cost.b, .int .i64 D.cost.c, .int .i64 D.cost.d, .int .i64 D.bud.a, .int .i64 D.bud.b, .int .i64 D.bud.c, .int .i64 D.bud.d, .int .i64 D.floor, .slice Q2 q cq2] 44) = w6 at *
    refine (implAnsweredLoss_law P2 A2 Z2 Y2 Q2 g cg2 n c2 m cm2 p cp2 q cq2 D _ HR.out).mono ?_
    rintro e w7 ⟨he, b7⟩
    obtain rfl : e = .returned (.tuple #[.agg #[.int .i64 0, .int .i64 0, .int .i64 0, .int .i64 0], .bool false]) := by rw [he, HO.out]; rfl
    replace Xa := Lib.hid (box_below Xa.out b7)
    replace Xw := Lib.hid (box_below Xw.out b7)
    replace Xx := Lib.hid (box_below Xx.out b7)
    replace HB := Lib.hid (HB.out.trans (b7.mono HB.out.size))
    replace HA := Lib.hid (HA.out.below b7)
    replace HR := Lib.hid (HR.out.below b7)
    replace HL := Lib.hid (HL.out.below b7)
    clear b7
    clear HR he
    have b8 := below_new w7 (.cells #[.int .i64 0, .int .i64 0, .int .i64 0, .int .i64 0] 42)
    have Xg := Lib.hid (box_new w7 #[.int .i64 0, .int .i64 0, .int .i64 0, .int .i64 0] 42)
    replace Xa := Lib.hid (box_below Xa.out b8)
    replace Xw := Lib.hid (box_below Xw.out b8)
    replace Xx := Lib.hid (box_below Xx.out b8)
    replace HB := Lib.hid (HB.out.trans (b8.mono HB.out.size))
    replace HA := Lib.hid (HA.out.below b8)
    replace HL := Lib.hid (HL.out.below b8)
    clear b8
    have lw := lt_of_block Xw.out
    have cw0 := box_cell Xw.out 0 _ rfl
    have cw1 := box_cell Xw.out 1 _ rfl
    have cw2 := box_cell Xw.out 2 _ rfl
    have cw3 := box_cell Xw.out 3 _ rfl
    have lg := lt_of_block Xg.out
    have cg0 := box_cell Xg.out 0 _ rfl
    have cg1 := box_cell Xg.out 1 _ rfl
    have cg2 := box_cell Xg.out 2 _ rfl
    have cg3 := box_cell Xg.out 3 _ rfl
    go_wp2_with fail
    clear lw cw0 cw1 cw2 cw3 lg cg0 cg1 cg2 cg3
    generalize w7.alloc (.cells #[.int .i64 0, .int .i64 0, .int .i64 0, .int .i64 0] 42) = w8 at *
    refine (eqLoss_T ⟨0, 0, 0, 0⟩ _).mono ?_
    rintro e w9 ⟨rfl, b9⟩
    replace Xa := Lib.hid (box_below Xa.out b9)
    replace Xw := Lib.hid (box_below Xw.out b9)
    replace Xx := Lib.hid (box_below Xx.out b9)
    replace Xg := Lib.hid (box_below Xg.out b9)
    replace HB := Lib.hid (HB.out.trans (b9.mono HB.out.size))
    replace HA := Lib.hid (HA.out.below b9)
    replace HL := Lib.hid (HL.out.below b9)
    clear b9
    clear Xw Xg
    have sw := HB.out.size
    have la := lt_of_block Xa.out
    have lx := lt_of_block Xx.out
    go_wp2_with fail
    clear la lx
    have BL := (Below.refl w9.heap.size w9).drew
    have xa : (World.drew w9).heap[w.heap.size]? = _ := Xa.out
    have xx9 : (World.drew w9).heap[w5.heap.size]? = _ := Xx.out
    have la := lt_of_block xa
    have lx := lt_of_block xx9
    go_region_held3 (fun w' => w'.cell? ⟨w.heap.size, 0, none⟩ = some (.slice P g cg) ∧ w'.cell? ⟨w.heap.size, 1, none⟩ = some (.slice A n c) ∧ w'.cell? ⟨w.heap.size, 2, none⟩ = some (.slice Z m cm) ∧ w'.cell? ⟨w.heap.size, 3, none⟩ = some (.slice Y p cp) ∧ w'.cell? ⟨w.heap.size, 4, none⟩ = some (.int .i64 D.cost.a) ∧ w'.cell? ⟨w.heap.size, 5, none⟩ = some (.int .i64 D.cost.b) ∧ w'.cell? ⟨w.heap.size, 6, none⟩ = some (.int .i64 D.cost.c) ∧ w'.cell? ⟨w.heap.size, 7, none⟩ = some (.int .i64 D.cost.d) ∧ w'.cell? ⟨w.heap.size, 8, none⟩ = some (.int .i64 D.bud.a) ∧ w'.cell? ⟨w.heap.size, 9, none⟩ = some (.int .i64 D.bud.b) ∧ w'.cell? ⟨w.heap.size, 10, none⟩ = some (.int .i64 D.bud.c) ∧ w'.cell? ⟨w.heap.size, 11, none⟩ = some (.int .i64 D.bud.d) ∧ w'.cell? ⟨w.heap.size, 12, none⟩ = some (.int .i64 D.floor) ∧ w'.cell? ⟨w.heap.size, 13, none⟩ = some (.slice Q q cq) ∧ w'.cell? ⟨w5.heap.size, 0, none⟩ = some (.slice P2 g cg2) ∧ w'.cell? ⟨w5.heap.size, 1, none⟩ = some (.slice A2 n c2) ∧ w'.cell? ⟨w5.heap.size, 2, none⟩ = some (.slice Z2 m cm2) ∧ w'.cell? ⟨w5.heap.size, 3, none⟩ = some (.slice Y2 p cp2) ∧ w'.cell? ⟨w5.heap.size, 4, none⟩ = some (.int .i64 D.cost.a) ∧ w'.cell? ⟨w5.heap.size, 5, none⟩ = some (.int .i64 D.cost.b) ∧ w'.cell? ⟨w5.heap.size, 6, none⟩ = some (.int .i64 D.cost.c) ∧ w'.cell? ⟨w5.heap.size, 7, none⟩ = some (.int .i64 D.cost.d) ∧ w'.cell? ⟨w5.heap.size, 8, none⟩ = some (.int .i64 D.bud.a) ∧ w'.cell? ⟨w5.heap.size, 9, none⟩ = some (.int .i64 D.bud.b) ∧ w'.cell? ⟨w5.heap.size, 10, none⟩ = some (.int .i64 D.bud.c) ∧ w'.cell? ⟨w5.heap.size, 11, none⟩ = some (.int .i64 D.bud.d) ∧ w'.cell? ⟨w5.heap.size, 12, none⟩ = some (.int .i64 D.floor) ∧ w'.cell? ⟨w5.heap.size, 13, none⟩ = some (.slice Q2 q cq2)) (exact ⟨box_cell xa 0 _ rfl, box_cell xa 1 _ rfl, box_cell xa 2 _ rfl, box_cell xa 3 _ rfl, box_cell xa 4 _ rfl, box_cell xa 5 _ rfl, box_cell xa 6 _ rfl, box_cell xa 7 _ rfl, box_cell xa 8 _ rfl, box_cell xa 9 _ rfl, box_cell xa 10 _ rfl, box_cell xa 11 _ rfl, box_cell xa 12 _ rfl, box_cell xa 13 _ rfl, box_cell xx9 0 _ rfl, box_cell xx9 1 _ rfl, box_cell xx9 2 _ rfl, box_cell xx9 3 _ rfl, box_cell xx9 4 _ rfl, box_cell xx9 5 _ rfl, box_cell xx9 6 _ rfl, box_cell xx9 7 _ rfl, box_cell xx9 8 _ rfl, box_cell xx9 9 _ rfl, box_cell xx9 10 _ rfl, box_cell xx9 11 _ rfl, box_cell xx9 12 _ rfl, box_cell xx9 13 _ rfl⟩) (first
        | (go_at_call 12; refine (toServer_law P A Z Y Q g cg n c m cm p cp q cq D _ (HA.out.below BL) HBD.out).mono ?_; rintro e wq ⟨P3, A3, Z3, Y3, Q3, cg3, c3, cm3, cp3, cq3, rfl, o1, bq⟩; have r3 := o1.law; clear o1; replace xa := box_below xa bq; replace xx9 := box_below xx9 bq; replace BL := BL.trans (bq.mono BL.size); clear bq)
        | (go_at_call 14; refine (eqServer_any P2 A2 Z2 Y2 Q2 g cg2 n c2 m cm2 p cp2 q cq2 D P3 A3 Z3 Y3 Q3 cg3 c3 cm3 cp3 cq3 _ (HL.out.below BL) r3 HBD.out).mono ?_; rintro e wq ⟨rfl, bq⟩; replace xa := box_below xa bq; replace xx9 := box_below xx9 bq; replace BL := BL.trans (bq.mono BL.size); clear bq)
        | fail)
    have HB9 := Lib.hid (HB.out.trans (BL.mono sw))
    clear xa xx9 BL Xa HB sw la lx
    go_wp2
    go_ret
    exact ⟨rfl, HB9.out⟩
  | some z =>
    have HO := Lib.hid ho
    clear ho
    have b0 := below_new w (.cells #[.slice P g cg, .slice A n c, .slice Z m cm, .slice Y p cp, .int .i64 D.cost.a, .int .i64 D.cost.b, .int .i64 D.cost.c, .int .i64 D.cost.d, .int .i64 D.bud.a, .int .i64 D.bud.b, .int .i64 D.bud.c, .int .i64 D.bud.d, .int .i64 D.floor, .slice Q q cq] 33)
    have xa := box_new w #[.slice P g cg, .slice A n c, .slice Z m cm, .slice Y p cp, .int .i64 D.cost.a, .int .i64 D.cost.b, .int .i64 D.cost.c, .int .i64 D.cost.d, .int .i64 D.bud.a, .int .i64 D.bud.b, .int .i64 D.bud.c, .int .i64 D.bud.d, .int .i64 D.floor, .slice Q q cq] 33
    have Xa := Lib.hid xa
    have HB := Lib.hid b0
    have HBD0 := Lib.hid hb
    have HA := Lib.hid (hA.below b0)
    clear b0 hb xa hA
    go_enter Tryz.func4, Tryz.ntmps4
    have la := lt_of_block Xa.out
    have ca0 := box_cell Xa.out 0 _ rfl
    have ca1 := box_cell Xa.out 1 _ rfl
    have ca2 := box_cell Xa.out 2 _ rfl
    have ca3 := box_cell Xa.out 3 _ rfl
    have ca4 := box_cell Xa.out 4 _ rfl
    have ca5 := box_cell Xa.out 5 _ rfl
    have ca6 := box_cell Xa.out 6 _ rfl
    have ca7 := box_cell Xa.out 7 _ rfl
    have ca8 := box_cell Xa.out 8 _ rfl
    have ca9 := box_cell Xa.out 9 _ rfl
    have ca10 := box_cell Xa.out 10 _ rfl
    have ca11 := box_cell Xa.out 11 _ rfl
    have ca12 := box_cell Xa.out 12 _ rfl
    have ca13 := box_cell Xa.out 13 _ rfl
    go_wp2_with fail
    clear la ca0 ca1 ca2 ca3 ca4 ca5 ca6 ca7 ca8 ca9 ca10 ca11 ca12 ca13
    generalize w.alloc (.cells #[.slice P g cg, .slice A n c, .slice Z m cm, .slice Y p cp, .int .i64 D.cost.a, .int .i64 D.cost.b, .int .i64 D.cost.c, .int .i64 D.cost.d, .int .i64 D.bud.a, .int .i64 D.bud.b, .int .i64 D.bud.c, .int .i64 D.bud.d, .int .i64 D.floor, .slice Q q cq] 33) = w0 at *
    refine (szServer_any P A Z Y Q g cg n c m cm p cp q cq D 1048576 _ HA.out HBD0.out (by omega) (by omega)).mono ?_
    rintro e w1 ⟨⟨l1, rfl, p1, q1, k1⟩, b1⟩
    replace Xa := Lib.hid (box_below Xa.out b1)
    replace HB := Lib.hid (HB.out.trans (b1.mono HB.out.size))
    replace HA := Lib.hid (HA.out.below b1)
    clear b1
    by_cases g1 : l1 < 0
    · go_wp2
      go_ret
      exact ⟨rfl, HB.out⟩
    have HBD := Lib.hid (k1 (by omega))
    clear k1 HBD0
    have la := lt_of_block Xa.out
    have ca0 := box_cell Xa.out 0 _ rfl
    have ca1 := box_cell Xa.out 1 _ rfl
    have ca2 := box_cell Xa.out 2 _ rfl
    have ca3 := box_cell Xa.out 3 _ rfl
    have ca4 := box_cell Xa.out 4 _ rfl
    have ca5 := box_cell Xa.out 5 _ rfl
    have ca6 := box_cell Xa.out 6 _ rfl
    have ca7 := box_cell Xa.out 7 _ rfl
    have ca8 := box_cell Xa.out 8 _ rfl
    have ca9 := box_cell Xa.out 9 _ rfl
    have ca10 := box_cell Xa.out 10 _ rfl
    have ca11 := box_cell Xa.out 11 _ rfl
    have ca12 := box_cell Xa.out 12 _ rfl
    have ca13 := box_cell Xa.out 13 _ rfl
    go_wp2_with fail
    clear la ca0 ca1 ca2 ca3 ca4 ca5 ca6 ca7 ca8 ca9 ca10 ca11 ca12 ca13
    refine (toServer_law P A Z Y Q g cg n c m cm p cp q cq D _ HA.out HBD.out).mono ?_
    rintro e w2 ⟨P1, A1, Z1, Y1, Q1, cg1, c1, cm1, cp1, cq1, rfl, o1, b2⟩
    replace Xa := Lib.hid (box_below Xa.out b2)
    replace HB := Lib.hid (HB.out.trans (b2.mono HB.out.size))
    replace HA := Lib.hid (HA.out.below b2)
    clear b2
    have HR := Lib.hid (o1.read HBD.out)
    clear o1
    go_wp2_with fail
    refine (specAnsweredLoss_law P1 A1 Z1 Y1 Q1 g cg1 n c1 m cm1 p cp1 q cq1 D _ HR.out).mono ?_
    rintro e w3 ⟨he, b3⟩
    obtain rfl : e = .returned (.tuple #[.agg #[.int .i64 z.a, .int .i64 z.b, .int .i64 z.c, .int .i64 z.d], .bool true]) := by rw [he, HO.out]; rfl
    replace Xa := Lib.hid (box_below Xa.out b3)
    replace HB := Lib.hid (HB.out.trans (b3.mono HB.out.size))
    replace HA := Lib.hid (HA.out.below b3)
    clear b3
    clear HR he
    have b4 := below_new w3 (.cells #[.int .i64 z.a, .int .i64 z.b, .int .i64 z.c, .int .i64 z.d] 42)
    have Xw := Lib.hid (box_new w3 #[.int .i64 z.a, .int .i64 z.b, .int .i64 z.c, .int .i64 z.d] 42)
    replace Xa := Lib.hid (box_below Xa.out b4)
    replace HB := Lib.hid (HB.out.trans (b4.mono HB.out.size))
    replace HA := Lib.hid (HA.out.below b4)
    clear b4
    have la := lt_of_block Xa.out
    have ca0 := box_cell Xa.out 0 _ rfl
    have ca1 := box_cell Xa.out 1 _ rfl
    have ca2 := box_cell Xa.out 2 _ rfl
    have ca3 := box_cell Xa.out 3 _ rfl
    have ca4 := box_cell Xa.out 4 _ rfl
    have ca5 := box_cell Xa.out 5 _ rfl
    have ca6 := box_cell Xa.out 6 _ rfl
    have ca7 := box_cell Xa.out 7 _ rfl
    have ca8 := box_cell Xa.out 8 _ rfl
    have ca9 := box_cell Xa.out 9 _ rfl
    have ca10 := box_cell Xa.out 10 _ rfl
    have ca11 := box_cell Xa.out 11 _ rfl
    have ca12 := box_cell Xa.out 12 _ rfl
    have ca13 := box_cell Xa.out 13 _ rfl
    go_wp2_with fail
    clear la ca0 ca1 ca2 ca3 ca4 ca5 ca6 ca7 ca8 ca9 ca10 ca11 ca12 ca13
    generalize w3.alloc (.cells #[.int .i64 z.a, .int .i64 z.b, .int .i64 z.c, .int .i64 z.d] 42) = w4 at *
    refine (toServer_law P A Z Y Q g cg n c m cm p cp q cq D _ HA.out HBD.out).mono ?_
    rintro e w5 ⟨P2, A2, Z2, Y2, Q2, cg2, c2, cm2, cp2, cq2, rfl, o1, b5⟩
    replace Xa := Lib.hid (box_below Xa.out b5)
    replace Xw := Lib.hid (box_below Xw.out b5)
    replace HB := Lib.hid (HB.out.trans (b5.mono HB.out.size))
    replace HA := Lib.hid (HA.out.below b5)
    clear b5
    have HR := Lib.hid (o1.read HBD.out)
    have HL := Lib.hid o1.law
    clear o1
    have b6 := below_new w5 (.cells #[.slice P2 g cg2, .slice A2 n c2, .slice Z2 m cm2, .slice Y2 p cp2, .int .i64 D.cost.a, .int .i64 D.cost.b, .int .i64 D.cost.c, .int .i64 D.cost.d, .int .i64 D.bud.a, .int .i64 D.bud.b, .int .i64 D.bud.c, .int .i64 D.bud.d, .int .i64 D.floor, .slice Q2 q cq2] 44)
    have Xx := Lib.hid (box_new w5 #[.slice P2 g cg2, .slice A2 n c2, .slice Z2 m cm2, .slice Y2 p cp2, .int .i64 D.cost.a, .int .i64 D.cost.b, .int .i64 D.cost.c, .int .i64 D.cost.d, .int .i64 D.bud.a, .int .i64 D.bud.b, .int .i64 D.bud.c, .int .i64 D.bud.d, .int .i64 D.floor, .slice Q2 q cq2] 44)
    replace Xa := Lib.hid (box_below Xa.out b6)
    replace Xw := Lib.hid (box_below Xw.out b6)
    replace HB := Lib.hid (HB.out.trans (b6.mono HB.out.size))
    replace HA := Lib.hid (HA.out.below b6)
    replace HR := Lib.hid (HR.out.below b6)
    replace HL := Lib.hid (HL.out.below b6)
    clear b6
    have lx := lt_of_block Xx.out
    have cx0 := box_cell Xx.out 0 _ rfl
    have cx1 := box_cell Xx.out 1 _ rfl
    have cx2 := box_cell Xx.out 2 _ rfl
    have cx3 := box_cell Xx.out 3 _ rfl
    have cx4 := box_cell Xx.out 4 _ rfl
    have cx5 := box_cell Xx.out 5 _ rfl
    have cx6 := box_cell Xx.out 6 _ rfl
    have cx7 := box_cell Xx.out 7 _ rfl
    have cx8 := box_cell Xx.out 8 _ rfl
    have cx9 := box_cell Xx.out 9 _ rfl
    have cx10 := box_cell Xx.out 10 _ rfl
    have cx11 := box_cell Xx.out 11 _ rfl
    have cx12 := box_cell Xx.out 12 _ rfl
    have cx13 := box_cell Xx.out 13 _ rfl
    go_wp2_with fail
    clear lx cx0 cx1 cx2 cx3 cx4 cx5 cx6 cx7 cx8 cx9 cx10 cx11 cx12 cx13
    generalize w5.alloc (.cells #[.slice P2 g cg2, .slice A2 n c2, .slice Z2 m cm2, .slice Y2 p cp2, .int .i64 D.cost.a, .int .i64 D.cost.b, .int .i64 D.cost.c, .int .i64 D.cost.d, .int .i64 D.bud.a, .int .i64 D.bud.b, .int .i64 D.bud.c, .int .i64 D.bud.d, .int .i64 D.floor, .slice Q2 q cq2] 44) = w6 at *
    refine (implAnsweredLoss_law P2 A2 Z2 Y2 Q2 g cg2 n c2 m cm2 p cp2 q cq2 D _ HR.out).mono ?_
    rintro e w7 ⟨he, b7⟩
    obtain rfl : e = .returned (.tuple #[.agg #[.int .i64 z.a, .int .i64 z.b, .int .i64 z.c, .int .i64 z.d], .bool true]) := by rw [he, HO.out]; rfl
    replace Xa := Lib.hid (box_below Xa.out b7)
    replace Xw := Lib.hid (box_below Xw.out b7)
    replace Xx := Lib.hid (box_below Xx.out b7)
    replace HB := Lib.hid (HB.out.trans (b7.mono HB.out.size))
    replace HA := Lib.hid (HA.out.below b7)
    replace HR := Lib.hid (HR.out.below b7)
    replace HL := Lib.hid (HL.out.below b7)
    clear b7
    clear HR he
    have b8 := below_new w7 (.cells #[.int .i64 z.a, .int .i64 z.b, .int .i64 z.c, .int .i64 z.d] 42)
    have Xg := Lib.hid (box_new w7 #[.int .i64 z.a, .int .i64 z.b, .int .i64 z.c, .int .i64 z.d] 42)
    replace Xa := Lib.hid (box_below Xa.out b8)
    replace Xw := Lib.hid (box_below Xw.out b8)
    replace Xx := Lib.hid (box_below Xx.out b8)
    replace HB := Lib.hid (HB.out.trans (b8.mono HB.out.size))
    replace HA := Lib.hid (HA.out.below b8)
    replace HL := Lib.hid (HL.out.below b8)
    clear b8
    have lw := lt_of_block Xw.out
    have cw0 := box_cell Xw.out 0 _ rfl
    have cw1 := box_cell Xw.out 1 _ rfl
    have cw2 := box_cell Xw.out 2 _ rfl
    have cw3 := box_cell Xw.out 3 _ rfl
    have lg := lt_of_block Xg.out
    have cg0 := box_cell Xg.out 0 _ rfl
    have cg1 := box_cell Xg.out 1 _ rfl
    have cg2 := box_cell Xg.out 2 _ rfl
    have cg3 := box_cell Xg.out 3 _ rfl
    go_wp2_with fail
    clear lw cw0 cw1 cw2 cw3 lg cg0 cg1 cg2 cg3
    generalize w7.alloc (.cells #[.int .i64 z.a, .int .i64 z.b, .int .i64 z.c, .int .i64 z.d] 42) = w8 at *
    refine (eqLoss_T z _).mono ?_
    rintro e w9 ⟨rfl, b9⟩
    replace Xa := Lib.hid (box_below Xa.out b9)
    replace Xw := Lib.hid (box_below Xw.out b9)
    replace Xx := Lib.hid (box_below Xx.out b9)
    replace Xg := Lib.hid (box_below Xg.out b9)
    replace HB := Lib.hid (HB.out.trans (b9.mono HB.out.size))
    replace HA := Lib.hid (HA.out.below b9)
    replace HL := Lib.hid (HL.out.below b9)
    clear b9
    clear Xw Xg
    have sw := HB.out.size
    have la := lt_of_block Xa.out
    have lx := lt_of_block Xx.out
    go_wp2_with fail
    clear la lx
    have BL := (Below.refl w9.heap.size w9).drew
    have xa : (World.drew w9).heap[w.heap.size]? = _ := Xa.out
    have xx9 : (World.drew w9).heap[w5.heap.size]? = _ := Xx.out
    have la := lt_of_block xa
    have lx := lt_of_block xx9
    go_region_held3 (fun w' => w'.cell? ⟨w.heap.size, 0, none⟩ = some (.slice P g cg) ∧ w'.cell? ⟨w.heap.size, 1, none⟩ = some (.slice A n c) ∧ w'.cell? ⟨w.heap.size, 2, none⟩ = some (.slice Z m cm) ∧ w'.cell? ⟨w.heap.size, 3, none⟩ = some (.slice Y p cp) ∧ w'.cell? ⟨w.heap.size, 4, none⟩ = some (.int .i64 D.cost.a) ∧ w'.cell? ⟨w.heap.size, 5, none⟩ = some (.int .i64 D.cost.b) ∧ w'.cell? ⟨w.heap.size, 6, none⟩ = some (.int .i64 D.cost.c) ∧ w'.cell? ⟨w.heap.size, 7, none⟩ = some (.int .i64 D.cost.d) ∧ w'.cell? ⟨w.heap.size, 8, none⟩ = some (.int .i64 D.bud.a) ∧ w'.cell? ⟨w.heap.size, 9, none⟩ = some (.int .i64 D.bud.b) ∧ w'.cell? ⟨w.heap.size, 10, none⟩ = some (.int .i64 D.bud.c) ∧ w'.cell? ⟨w.heap.size, 11, none⟩ = some (.int .i64 D.bud.d) ∧ w'.cell? ⟨w.heap.size, 12, none⟩ = some (.int .i64 D.floor) ∧ w'.cell? ⟨w.heap.size, 13, none⟩ = some (.slice Q q cq) ∧ w'.cell? ⟨w5.heap.size, 0, none⟩ = some (.slice P2 g cg2) ∧ w'.cell? ⟨w5.heap.size, 1, none⟩ = some (.slice A2 n c2) ∧ w'.cell? ⟨w5.heap.size, 2, none⟩ = some (.slice Z2 m cm2) ∧ w'.cell? ⟨w5.heap.size, 3, none⟩ = some (.slice Y2 p cp2) ∧ w'.cell? ⟨w5.heap.size, 4, none⟩ = some (.int .i64 D.cost.a) ∧ w'.cell? ⟨w5.heap.size, 5, none⟩ = some (.int .i64 D.cost.b) ∧ w'.cell? ⟨w5.heap.size, 6, none⟩ = some (.int .i64 D.cost.c) ∧ w'.cell? ⟨w5.heap.size, 7, none⟩ = some (.int .i64 D.cost.d) ∧ w'.cell? ⟨w5.heap.size, 8, none⟩ = some (.int .i64 D.bud.a) ∧ w'.cell? ⟨w5.heap.size, 9, none⟩ = some (.int .i64 D.bud.b) ∧ w'.cell? ⟨w5.heap.size, 10, none⟩ = some (.int .i64 D.bud.c) ∧ w'.cell? ⟨w5.heap.size, 11, none⟩ = some (.int .i64 D.bud.d) ∧ w'.cell? ⟨w5.heap.size, 12, none⟩ = some (.int .i64 D.floor) ∧ w'.cell? ⟨w5.heap.size, 13, none⟩ = some (.slice Q2 q cq2)) (exact ⟨box_cell xa 0 _ rfl, box_cell xa 1 _ rfl, box_cell xa 2 _ rfl, box_cell xa 3 _ rfl, box_cell xa 4 _ rfl, box_cell xa 5 _ rfl, box_cell xa 6 _ rfl, box_cell xa 7 _ rfl, box_cell xa 8 _ rfl, box_cell xa 9 _ rfl, box_cell xa 10 _ rfl, box_cell xa 11 _ rfl, box_cell xa 12 _ rfl, box_cell xa 13 _ rfl, box_cell xx9 0 _ rfl, box_cell xx9 1 _ rfl, box_cell xx9 2 _ rfl, box_cell xx9 3 _ rfl, box_cell xx9 4 _ rfl, box_cell xx9 5 _ rfl, box_cell xx9 6 _ rfl, box_cell xx9 7 _ rfl, box_cell xx9 8 _ rfl, box_cell xx9 9 _ rfl, box_cell xx9 10 _ rfl, box_cell xx9 11 _ rfl, box_cell xx9 12 _ rfl, box_cell xx9 13 _ rfl⟩) (first
        | (go_at_call 12; refine (toServer_law P A Z Y Q g cg n c m cm p cp q cq D _ (HA.out.below BL) HBD.out).mono ?_; rintro e wq ⟨P3, A3, Z3, Y3, Q3, cg3, c3, cm3, cp3, cq3, rfl, o1, bq⟩; have r3 := o1.law; clear o1; replace xa := box_below xa bq; replace xx9 := box_below xx9 bq; replace BL := BL.trans (bq.mono BL.size); clear bq)
        | (go_at_call 14; refine (eqServer_any P2 A2 Z2 Y2 Q2 g cg2 n c2 m cm2 p cp2 q cq2 D P3 A3 Z3 Y3 Q3 cg3 c3 cm3 cp3 cq3 _ (HL.out.below BL) r3 HBD.out).mono ?_; rintro e wq ⟨rfl, bq⟩; replace xa := box_below xa bq; replace xx9 := box_below xx9 bq; replace BL := BL.trans (bq.mono BL.size); clear bq)
        | fail)
    have HB9 := Lib.hid (HB.out.trans (BL.mono sw))
    clear xa xx9 BL Xa HB sw la lx
    go_wp2
    go_ret
    exact ⟨rfl, HB9.out⟩
end Go.Proofs.YtfanpbfmnckmnaaGreat
