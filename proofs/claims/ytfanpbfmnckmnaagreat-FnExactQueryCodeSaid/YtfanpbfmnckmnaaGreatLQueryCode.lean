/- The walk of the law FnExactQueryCode, printed by gex2.py. -/
import Derived.Test.YtfanpbfmnckmnaaGreatPubA
import Derived.Test.YtfanpbfmnckmnaaGreatTlD
import Derived.Deep.CutRange
namespace Go.Proofs.YtfanpbfmnckmnaaGreat
open Go.RowKit

set_option maxRecDepth 100000 in
set_option maxHeartbeats 4000000 in
theorem walk_FnExactQueryCode (P A Z Y Q : Option Addr) (g cg n c m cm p cp q cq : Nat) (D : SvD) (V U : Option Addr) (tm td tk te : Nat) (t : TabD) (w : World) (hA : LawSv w P A Z Y Q g n m p q D) (hb : SvBd 9223372036854775807 g n m p q D) (hv : Ints w V tm t.vars) (hu : Ints w U tk t.wh) (hm : tm ≤ 9223372036854775807) (hk : tk ≤ 9223372036854775807) :
    Calls Tryz.prog 6 #[.agg #[.slice P g cg, .slice A n c, .slice Z m cm, .slice Y p cp, .int .i64 D.cost.a, .int .i64 D.cost.b, .int .i64 D.cost.c, .int .i64 D.cost.d, .int .i64 D.bud.a, .int .i64 D.bud.b, .int .i64 D.bud.c, .int .i64 D.bud.d, .int .i64 D.floor, .slice Q q cq], .agg #[.int .i64 t.lv, .slice V tm td, .slice U tk te, .int .i64 t.sum]] w fun e w' => e = .returned (.bool true) ∧ Below w.heap.size w w' := by
  obtain ⟨b0, xa, xt⟩ := box_two w #[.slice P g cg, .slice A n c, .slice Z m cm, .slice Y p cp, .int .i64 D.cost.a, .int .i64 D.cost.b, .int .i64 D.cost.c, .int .i64 D.cost.d, .int .i64 D.bud.a, .int .i64 D.bud.b, .int .i64 D.bud.c, .int .i64 D.bud.d, .int .i64 D.floor, .slice Q q cq] #[.int .i64 t.lv, .slice V tm td, .slice U tk te, .int .i64 t.sum] 33 52
  have Xa := Lib.hid xa
  have HB := Lib.hid b0
  have HBD0 := Lib.hid hb
  have HA := Lib.hid (hA.below b0)
  have Xt := Lib.hid xt
  have HV := Lib.hid (hv.below b0)
  have HU := Lib.hid (hu.below b0)
  clear b0 hb xa hA xt hv hu
  go_enter Tryz.func6, Tryz.ntmps6
  have la := lt_of_block Xa.out
  have ca0 := box_cell Xa.out 0 _ rfl
  have ca1 := box_cell Xa.out 1 _ rfl
  have ca2 := box_cell Xa.out 2 _ rfl
  have ca3 := box_cell Xa.out 3 _ rfl
  have ca4 := box_cell Xa.out 4 _ rfl
  have ca5 := box_cell Xa.out 5 _ rfl
  have ca6 := box_cell Xa.out 6 _ rfl
  have ca7 := box_cell Xa.out 7 _ rfl
  have ca8 := box_cell Xa.out 8 _ rfl
  have ca9 := box_cell Xa.out 9 _ rfl
  have ca10 := box_cell Xa.out 10 _ rfl
  have ca11 := box_cell Xa.out 11 _ rfl
  have ca12 := box_cell Xa.out 12 _ rfl
  have ca13 := box_cell Xa.out 13 _ rfl
  go_wp2_with fail
  clear la ca0 ca1 ca2 ca3 ca4 ca5 ca6 ca7 ca8 ca9 ca10 ca11 ca12 ca13
  generalize (w.alloc (.cells #[.slice P g cg, .slice A n c, .slice Z m cm, .slice Y p cp, .int .i64 D.cost.a, .int .i64 D.cost.b, .int .i64 D.cost.c, .int .i64 D.cost.d, .int .i64 D.bud.a, .int .i64 D.bud.b, .int .i64 D.bud.c, .int .i64 D.bud.d, .int .i64 D.floor, .slice Q q cq] 33)).alloc (.cells #[.int .i64 t.lv, .slice V tm td, .slice U tk te, .int .i64 t.sum] 52) = w0 at *
  refine (szServer_any P A Z Y Q g cg n c m cm p cp q cq D 1048576 _ HA.out HBD0.out (by omega) (by omega)).mono ?_
  rintro e w1 ⟨⟨l1, rfl, p1, q1, k1⟩, b1⟩
  replace Xa := Lib.hid (box_below Xa.out b1)
  replace Xt := Lib.hid (box_below Xt.out b1)
  replace HB := Lib.hid (HB.out.trans (b1.mono HB.out.size))
  replace HA := Lib.hid (HA.out.below b1)
  replace HV := Lib.hid (HV.out.below b1)
  replace HU := Lib.hid (HU.out.below b1)
  clear b1
  by_cases g1 : l1 < 0
  · go_wp2
    go_ret
    exact ⟨rfl, HB.out⟩
  have HBD := Lib.hid (k1 (by omega))
  clear k1 HBD0
  have lt := lt_of_block Xt.out
  have ct0 := box_cell Xt.out 0 _ rfl
  have ct1 := box_cell Xt.out 1 _ rfl
  have ct2 := box_cell Xt.out 2 _ rfl
  have ct3 := box_cell Xt.out 3 _ rfl
  go_wp2_with fail
  clear lt ct0 ct1 ct2 ct3
  refine (szTable_any t.lv t.sum V U tm td tk te l1 _ hm hk (by omega) (by omega)).mono ?_
  rintro e w2 ⟨⟨l2, rfl, p2, q2, k2⟩, b2⟩
  replace Xa := Lib.hid (box_below Xa.out b2)
  replace Xt := Lib.hid (box_below Xt.out b2)
  replace HB := Lib.hid (HB.out.trans (b2.mono HB.out.size))
  replace HA := Lib.hid (HA.out.below b2)
  replace HV := Lib.hid (HV.out.below b2)
  replace HU := Lib.hid (HU.out.below b2)
  clear b2
  by_cases g2 : l2 < 0
  · clear k2
    go_wp2
    go_ret
    exact ⟨rfl, HB.out⟩
  have k3 := k2 (by omega)
  have htm : tm ≤ 1048576 := by omega
  have htk : tk ≤ 1048576 := by omega
  clear k2 hm hk
  go_upto_region 8 with (fail)
  go_cut [6, 7] from 22 to 29 (fun u v wx => u = .int .i64 (qcV D t) ∧ v = .bool (svB D) ∧ Hid (Below w2.heap.size w2 wx))
  case first =>
    have BL := (Below.refl w2.heap.size w2).drew
    have xa : (World.drew w2).heap[w.heap.size]? = _ := Xa.out
    have xt : (World.drew w2).heap[w.heap.size + 1]? = _ := Xt.out
    have la := lt_of_block xa
    have lt := lt_of_block xt
    go_region_held3 (fun w' => w'.cell? ⟨w.heap.size, 0, none⟩ = some (.slice P g cg) ∧ w'.cell? ⟨w.heap.size, 1, none⟩ = some (.slice A n c) ∧ w'.cell? ⟨w.heap.size, 2, none⟩ = some (.slice Z m cm) ∧ w'.cell? ⟨w.heap.size, 3, none⟩ = some (.slice Y p cp) ∧ w'.cell? ⟨w.heap.size, 4, none⟩ = some (.int .i64 D.cost.a) ∧ w'.cell? ⟨w.heap.size, 5, none⟩ = some (.int .i64 D.cost.b) ∧ w'.cell? ⟨w.heap.size, 6, none⟩ = some (.int .i64 D.cost.c) ∧ w'.cell? ⟨w.heap.size, 7, none⟩ = some (.int .i64 D.cost.d) ∧ w'.cell? ⟨w.heap.size, 8, none⟩ = some (.int .i64 D.bud.a) ∧ w'.cell? ⟨w.heap.size, 9, none⟩ = some (.int .i64 D.bud.b) ∧ w'.cell? ⟨w.heap.size, 10, none⟩ = some (.int .i64 D.bud.c) ∧ w'.cell? ⟨w.heap.size, 11, none⟩ = some (.int .i64 D.bud.d) ∧ w'.cell? ⟨w.heap.size, 12, none⟩ = some (.int .i64 D.floor) ∧ w'.cell? ⟨w.heap.size, 13, none⟩ = some (.slice Q q cq) ∧ w'.cell? ⟨w.heap.size + 1, 0, none⟩ = some (.int .i64 t.lv) ∧ w'.cell? ⟨w.heap.size + 1, 1, none⟩ = some (.slice V tm td) ∧ w'.cell? ⟨w.heap.size + 1, 2, none⟩ = some (.slice U tk te) ∧ w'.cell? ⟨w.heap.size + 1, 3, none⟩ = some (.int .i64 t.sum)) (exact ⟨box_cell xa 0 _ rfl, box_cell xa 1 _ rfl, box_cell xa 2 _ rfl, box_cell xa 3 _ rfl, box_cell xa 4 _ rfl, box_cell xa 5 _ rfl, box_cell xa 6 _ rfl, box_cell xa 7 _ rfl, box_cell xa 8 _ rfl, box_cell xa 9 _ rfl, box_cell xa 10 _ rfl, box_cell xa 11 _ rfl, box_cell xa 12 _ rfl, box_cell xa 13 _ rfl, box_cell xt 0 _ rfl, box_cell xt 1 _ rfl, box_cell xt 2 _ rfl, box_cell xt 3 _ rfl⟩) (first
        | (go_at_call 12; refine (toServer_law P A Z Y Q g cg n c m cm p cp q cq D _ (HA.out.below BL) HBD.out).mono ?_; rintro e wq ⟨P1, A1, Z1, Y1, Q1, cg1, c1, cm1, cp1, cq1, rfl, o1, bq⟩; have r1 := o1.read HBD.out; clear o1; (first | (replace r2 := r2.below bq) | skip); replace xa := box_below xa bq; replace xt := box_below xt bq; replace BL := BL.trans (bq.mono BL.size); clear bq)
        | (go_at_call 20; refine (toTable_any t.lv t.sum V U tm td tk te _ _ _ (HV.out.below BL) (HU.out.below BL) (by omega) (by omega)).mono ?_; rintro e wq ⟨V1, d1, U1, e1, mid, rfl, o2, o3, _, _, bq⟩; (first | (replace r1 := r1.below bq) | skip); have r2 := TabR.mk o2.intR o3.intR; clear o2 o3; replace xa := box_below xa bq; replace xt := box_below xt bq; replace BL := BL.trans (bq.mono BL.size); clear bq)
        | (go_at_call 23; refine (specQueryCode_law P1 A1 Z1 Y1 Q1 g cg1 n c1 m cm1 p cp1 q cq1 D V1 U1 tm d1 tk e1 t _ r1 r2).mono ?_; rintro e wq ⟨rfl, bq⟩; replace xa := box_below xa bq; replace xt := box_below xt bq; replace BL := BL.trans (bq.mono BL.size); clear bq)
        | fail)
    all_goals (go_wp2; go_meet; exact ⟨rfl, rfl, Lib.hid BL⟩)
  case rest =>
  obtain ⟨rfl, rfl, hbc⟩ := hcut
  have b3 := hbc.out
  clear hbc
  generalize wc = w3 at *
  replace Xa := Lib.hid (box_below Xa.out b3)
  replace Xt := Lib.hid (box_below Xt.out b3)
  replace HB := Lib.hid (HB.out.trans (b3.mono HB.out.size))
  replace HA := Lib.hid (HA.out.below b3)
  replace HV := Lib.hid (HV.out.below b3)
  replace HU := Lib.hid (HU.out.below b3)
  clear b3
  have la := lt_of_block Xa.out
  have ca0 := box_cell Xa.out 0 _ rfl
  have ca1 := box_cell Xa.out 1 _ rfl
  have ca2 := box_cell Xa.out 2 _ rfl
  have ca3 := box_cell Xa.out 3 _ rfl
  have ca4 := box_cell Xa.out 4 _ rfl
  have ca5 := box_cell Xa.out 5 _ rfl
  have ca6 := box_cell Xa.out 6 _ rfl
  have ca7 := box_cell Xa.out 7 _ rfl
  have ca8 := box_cell Xa.out 8 _ rfl
  have ca9 := box_cell Xa.out 9 _ rfl
  have ca10 := box_cell Xa.out 10 _ rfl
  have ca11 := box_cell Xa.out 11 _ rfl
  have ca12 := box_cell Xa.out 12 _ rfl
  have ca13 := box_cell Xa.out 13 _ rfl
  go_wp2_with fail
  clear la ca0 ca1 ca2 ca3 ca4 ca5 ca6 ca7 ca8 ca9 ca10 ca11 ca12 ca13
  refine (toServer_law P A Z Y Q g cg n c m cm p cp q cq D _ HA.out HBD.out).mono ?_
  rintro e w5 ⟨P2, A2, Z2, Y2, Q2, cg2, c2, cm2, cp2, cq2, rfl, o1, b5⟩
  replace Xa := Lib.hid (box_below Xa.out b5)
  replace Xt := Lib.hid (box_below Xt.out b5)
  replace HB := Lib.hid (HB.out.trans (b5.mono HB.out.size))
  replace HA := Lib.hid (HA.out.below b5)
  replace HV := Lib.hid (HV.out.below b5)
  replace HU := Lib.hid (HU.out.below b5)
  clear b5
  have HR := Lib.hid (o1.read HBD.out)
  have HL := Lib.hid o1.law
  clear o1
  have b6 := below_new w5 (.cells #[.slice P2 g cg2, .slice A2 n c2, .slice Z2 m cm2, .slice Y2 p cp2, .int .i64 D.cost.a, .int .i64 D.cost.b, .int .i64 D.cost.c, .int .i64 D.cost.d, .int .i64 D.bud.a, .int .i64 D.bud.b, .int .i64 D.bud.c, .int .i64 D.bud.d, .int .i64 D.floor, .slice Q2 q cq2] 44)
  have Xx := Lib.hid (box_new w5 #[.slice P2 g cg2, .slice A2 n c2, .slice Z2 m cm2, .slice Y2 p cp2, .int .i64 D.cost.a, .int .i64 D.cost.b, .int .i64 D.cost.c, .int .i64 D.cost.d, .int .i64 D.bud.a, .int .i64 D.bud.b, .int .i64 D.bud.c, .int .i64 D.bud.d, .int .i64 D.floor, .slice Q2 q cq2] 44)
  replace Xa := Lib.hid (box_below Xa.out b6)
  replace Xt := Lib.hid (box_below Xt.out b6)
  replace HB := Lib.hid (HB.out.trans (b6.mono HB.out.size))
  replace HA := Lib.hid (HA.out.below b6)
  replace HV := Lib.hid (HV.out.below b6)
  replace HU := Lib.hid (HU.out.below b6)
  replace HR := Lib.hid (HR.out.below b6)
  replace HL := Lib.hid (HL.out.below b6)
  clear b6
  have lt := lt_of_block Xt.out
  have ct0 := box_cell Xt.out 0 _ rfl
  have ct1 := box_cell Xt.out 1 _ rfl
  have ct2 := box_cell Xt.out 2 _ rfl
  have ct3 := box_cell Xt.out 3 _ rfl
  go_wp2_with fail
  clear lt ct0 ct1 ct2 ct3
  have HNX := Lib.hid (show w5.heap.size = w5.heap.size from rfl)
  generalize w5.alloc (.cells #[.slice P2 g cg2, .slice A2 n c2, .slice Z2 m cm2, .slice Y2 p cp2, .int .i64 D.cost.a, .int .i64 D.cost.b, .int .i64 D.cost.c, .int .i64 D.cost.d, .int .i64 D.bud.a, .int .i64 D.bud.b, .int .i64 D.bud.c, .int .i64 D.bud.d, .int .i64 D.floor, .slice Q2 q cq2] 44) = w6 at *
  refine (toTable_any t.lv t.sum V U tm td tk te _ _ _ HV.out HU.out (by omega) (by omega)).mono ?_
  rintro e w7 ⟨V2, d2, U2, e2, mid, rfl, o2, o3, _, _, b7⟩
  replace Xa := Lib.hid (box_below Xa.out b7)
  replace Xt := Lib.hid (box_below Xt.out b7)
  replace Xx := Lib.hid (box_below Xx.out b7)
  replace HB := Lib.hid (HB.out.trans (b7.mono HB.out.size))
  replace HA := Lib.hid (HA.out.below b7)
  replace HV := Lib.hid (HV.out.below b7)
  replace HU := Lib.hid (HU.out.below b7)
  replace HR := Lib.hid (HR.out.below b7)
  replace HL := Lib.hid (HL.out.below b7)
  clear b7
  have HT := Lib.hid (TabR.mk o2.intR o3.intR)
  have HV2 := Lib.hid o2.ints
  have HU2 := Lib.hid o3.ints
  clear o2 o3 HNX
  have b8 := below_new w7 (.cells #[.int .i64 t.lv, .slice V2 tm d2, .slice U2 tk e2, .int .i64 t.sum] 56)
  have Xy := Lib.hid (box_new w7 #[.int .i64 t.lv, .slice V2 tm d2, .slice U2 tk e2, .int .i64 t.sum] 56)
  replace Xa := Lib.hid (box_below Xa.out b8)
  replace Xt := Lib.hid (box_below Xt.out b8)
  replace Xx := Lib.hid (box_below Xx.out b8)
  replace HB := Lib.hid (HB.out.trans (b8.mono HB.out.size))
  replace HA := Lib.hid (HA.out.below b8)
  replace HV := Lib.hid (HV.out.below b8)
  replace HU := Lib.hid (HU.out.below b8)
  replace HR := Lib.hid (HR.out.below b8)
  replace HL := Lib.hid (HL.out.below b8)
  replace HT := Lib.hid (HT.out.below b8)
  replace HV2 := Lib.hid (HV2.out.below b8)
  replace HU2 := Lib.hid (HU2.out.below b8)
  clear b8
  have lx := lt_of_block Xx.out
  have cx0 := box_cell Xx.out 0 _ rfl
  have cx1 := box_cell Xx.out 1 _ rfl
  have cx2 := box_cell Xx.out 2 _ rfl
  have cx3 := box_cell Xx.out 3 _ rfl
  have cx4 := box_cell Xx.out 4 _ rfl
  have cx5 := box_cell Xx.out 5 _ rfl
  have cx6 := box_cell Xx.out 6 _ rfl
  have cx7 := box_cell Xx.out 7 _ rfl
  have cx8 := box_cell Xx.out 8 _ rfl
  have cx9 := box_cell Xx.out 9 _ rfl
  have cx10 := box_cell Xx.out 10 _ rfl
  have cx11 := box_cell Xx.out 11 _ rfl
  have cx12 := box_cell Xx.out 12 _ rfl
  have cx13 := box_cell Xx.out 13 _ rfl
  have ly := lt_of_block Xy.out
  have cy0 := box_cell Xy.out 0 _ rfl
  have cy1 := box_cell Xy.out 1 _ rfl
  have cy2 := box_cell Xy.out 2 _ rfl
  have cy3 := box_cell Xy.out 3 _ rfl
  go_wp2_with fail
  clear lx cx0 cx1 cx2 cx3 cx4 cx5 cx6 cx7 cx8 cx9 cx10 cx11 cx12 cx13 ly cy0 cy1 cy2 cy3
  generalize w7.alloc (.cells #[.int .i64 t.lv, .slice V2 tm d2, .slice U2 tk e2, .int .i64 t.sum] 56) = w8 at *
  refine (implQueryCode_law P2 A2 Z2 Y2 Q2 g cg2 n c2 m cm2 p cp2 q cq2 D V2 U2 tm d2 tk e2 t _ HR.out HT.out).mono ?_
  rintro e w9 ⟨rfl, b9⟩
  replace Xa := Lib.hid (box_below Xa.out b9)
  replace Xt := Lib.hid (box_below Xt.out b9)
  replace Xx := Lib.hid (box_below Xx.out b9)
  replace Xy := Lib.hid (box_below Xy.out b9)
  replace HB := Lib.hid (HB.out.trans (b9.mono HB.out.size))
  replace HA := Lib.hid (HA.out.below b9)
  replace HV := Lib.hid (HV.out.below b9)
  replace HU := Lib.hid (HU.out.below b9)
  replace HR := Lib.hid (HR.out.below b9)
  replace HL := Lib.hid (HL.out.below b9)
  replace HT := Lib.hid (HT.out.below b9)
  replace HV2 := Lib.hid (HV2.out.below b9)
  replace HU2 := Lib.hid (HU2.out.below b9)
  clear b9
  clear HR HT
  generalize qcV D t = xx at *
  generalize svB D = bb at *
  have hxx : (xx != xx) = false := by simp
  have hbb : (bb != bb) = false := by simp
  have sw := HB.out.size
  have la := lt_of_block Xa.out
  have lt := lt_of_block Xt.out
  have lx := lt_of_block Xx.out
  go_wp2_with fail
  clear la lx lt
  have BL := (Below.refl w9.heap.size w9).drew
  have xa : (World.drew w9).heap[w.heap.size]? = _ := Xa.out
  have xx9 : (World.drew w9).heap[w5.heap.size]? = _ := Xx.out
  have xt : (World.drew w9).heap[w.heap.size + 1]? = _ := Xt.out
  have la := lt_of_block xa
  have lx := lt_of_block xx9
  have lt := lt_of_block xt
  go_region_held3 (fun w' => w'.cell? ⟨w.heap.size, 0, none⟩ = some (.slice P g cg) ∧ w'.cell? ⟨w.heap.size, 1, none⟩ = some (.slice A n c) ∧ w'.cell? ⟨w.heap.size, 2, none⟩ = some (.slice Z m cm) ∧ w'.cell? ⟨w.heap.size, 3, none⟩ = some (.slice Y p cp) ∧ w'.cell? ⟨w.heap.size, 4, none⟩ = some (.int .i64 D.cost.a) ∧ w'.cell? ⟨w.heap.size, 5, none⟩ = some (.int .i64 D.cost.b) ∧ w'.cell? ⟨w.heap.size, 6, none⟩ = some (.int .i64 D.cost.c) ∧ w'.cell? ⟨w.heap.size, 7, none⟩ = some (.int .i64 D.cost.d) ∧ w'.cell? ⟨w.heap.size, 8, none⟩ = some (.int .i64 D.bud.a) ∧ w'.cell? ⟨w.heap.size, 9, none⟩ = some (.int .i64 D.bud.b) ∧ w'.cell? ⟨w.heap.size, 10, none⟩ = some (.int .i64 D.bud.c) ∧ w'.cell? ⟨w.heap.size, 11, none⟩ = some (.int .i64 D.bud.d) ∧ w'.cell? ⟨w.heap.size, 12, none⟩ = some (.int .i64 D.floor) ∧ w'.cell? ⟨w.heap.size, 13, none⟩ = some (.slice Q q cq) ∧ w'.cell? ⟨w5.heap.size, 0, none⟩ = some (.slice P2 g cg2) ∧ w'.cell? ⟨w5.heap.size, 1, none⟩ = some (.slice A2 n c2) ∧ w'.cell? ⟨w5.heap.size, 2, none⟩ = some (.slice Z2 m cm2) ∧ w'.cell? ⟨w5.heap.size, 3, none⟩ = some (.slice Y2 p cp2) ∧ w'.cell? ⟨w5.heap.size, 4, none⟩ = some (.int .i64 D.cost.a) ∧ w'.cell? ⟨w5.heap.size, 5, none⟩ = some (.int .i64 D.cost.b) ∧ w'.cell? ⟨w5.heap.size, 6, none⟩ = some (.int .i64 D.cost.c) ∧ w'.cell? ⟨w5.heap.size, 7, none⟩ = some (.int .i64 D.cost.d) ∧ w'.cell? ⟨w5.heap.size, 8, none⟩ = some (.int .i64 D.bud.a) ∧ w'.cell? ⟨w5.heap.size, 9, none⟩ = some (.int .i64 D.bud.b) ∧ w'.cell? ⟨w5.heap.size, 10, none⟩ = some (.int .i64 D.bud.c) ∧ w'.cell? ⟨w5.heap.size, 11, none⟩ = some (.int .i64 D.bud.d) ∧ w'.cell? ⟨w5.heap.size, 12, none⟩ = some (.int .i64 D.floor) ∧ w'.cell? ⟨w5.heap.size, 13, none⟩ = some (.slice Q2 q cq2)) (exact ⟨box_cell xa 0 _ rfl, box_cell xa 1 _ rfl, box_cell xa 2 _ rfl, box_cell xa 3 _ rfl, box_cell xa 4 _ rfl, box_cell xa 5 _ rfl, box_cell xa 6 _ rfl, box_cell xa 7 _ rfl, box_cell xa 8 _ rfl, box_cell xa 9 _ rfl, box_cell xa 10 _ rfl, box_cell xa 11 _ rfl, box_cell xa 12 _ rfl, box_cell xa 13 _ rfl, box_cell xx9 0 _ rfl, box_cell xx9 1 _ rfl, box_cell xx9 2 _ rfl, box_cell xx9 3 _ rfl, box_cell xx9 4 _ rfl, box_cell xx9 5 _ rfl, box_cell xx9 6 _ rfl, box_cell xx9 7 _ rfl, box_cell xx9 8 _ rfl, box_cell xx9 9 _ rfl, box_cell xx9 10 _ rfl, box_cell xx9 11 _ rfl, box_cell xx9 12 _ rfl, box_cell xx9 13 _ rfl⟩) (first
      | (go_at_call 12; refine (toServer_law P A Z Y Q g cg n c m cm p cp q cq D _ (HA.out.below BL) HBD.out).mono ?_; rintro e wq ⟨P3, A3, Z3, Y3, Q3, cg3, c3, cm3, cp3, cq3, rfl, o1, bq⟩; have r3 := o1.law; clear o1; replace xa := box_below xa bq; replace xx9 := box_below xx9 bq; replace xt := box_below xt bq; replace BL := BL.trans (bq.mono BL.size); clear bq)
      | (go_at_call 14; refine (eqServer_any P2 A2 Z2 Y2 Q2 g cg2 n c2 m cm2 p cp2 q cq2 D P3 A3 Z3 Y3 Q3 cg3 c3 cm3 cp3 cq3 _ (HL.out.below BL) r3 HBD.out).mono ?_; rintro e wq ⟨rfl, bq⟩; replace xa := box_below xa bq; replace xx9 := box_below xx9 bq; replace xt := box_below xt bq; replace BL := BL.trans (bq.mono BL.size); clear bq)
      | fail)
  have HB9 := Lib.hid (HB.out.trans (BL.mono sw))
  obtain ⟨wz, hwz⟩ : ∃ x : World, x = wq := ⟨_, rfl⟩
  subst hwz
  replace HV := Lib.hid (HV.out.below BL)
  replace HU := Lib.hid (HU.out.below BL)
  replace HV2 := Lib.hid (HV2.out.below BL)
  replace HU2 := Lib.hid (HU2.out.below BL)
  have Zt := Lib.hid xt
  have Zy := Lib.hid (box_below Xy.out BL)
  have Za := Lib.hid xa
  clear xa xt xx9 BL Xa Xt Xx Xy HB sw la lt lx HA HL r3
  have Xa := Za
  have Xt := Zt
  have Xy := Zy
  have HB := HB9
  clear Za Zt Zy HB9
  have sw := HB.out.size
  have la := lt_of_block Xa.out
  have lt := lt_of_block Xt.out
  have lx := lt_of_block Xy.out
  go_wp2_with fail
  clear la lx lt
  have BL := (Below.refl wz.heap.size wz).drew
  have xa : (World.drew wz).heap[w.heap.size]? = _ := Xa.out
  have xx9 : (World.drew wz).heap[w7.heap.size]? = _ := Xy.out
  have xt : (World.drew wz).heap[w.heap.size + 1]? = _ := Xt.out
  have la := lt_of_block xa
  have lx := lt_of_block xx9
  have lt := lt_of_block xt
  go_region_held3 (fun w' => w'.cell? ⟨w.heap.size + 1, 0, none⟩ = some (.int .i64 t.lv) ∧ w'.cell? ⟨w.heap.size + 1, 1, none⟩ = some (.slice V tm td) ∧ w'.cell? ⟨w.heap.size + 1, 2, none⟩ = some (.slice U tk te) ∧ w'.cell? ⟨w.heap.size + 1, 3, none⟩ = some (.int .i64 t.sum) ∧ w'.cell? ⟨w7.heap.size, 0, none⟩ = some (.int .i64 t.lv) ∧ w'.cell? ⟨w7.heap.size, 1, none⟩ = some (.slice V2 tm d2) ∧ w'.cell? ⟨w7.heap.size, 2, none⟩ = some (.slice U2 tk e2) ∧ w'.cell? ⟨w7.heap.size, 3, none⟩ = some (.int .i64 t.sum)) (exact ⟨box_cell xt 0 _ rfl, box_cell xt 1 _ rfl, box_cell xt 2 _ rfl, box_cell xt 3 _ rfl, box_cell xx9 0 _ rfl, box_cell xx9 1 _ rfl, box_cell xx9 2 _ rfl, box_cell xx9 3 _ rfl⟩) (first
      | (go_at_call 20; refine (toTable_any t.lv t.sum V U tm td tk te _ _ _ (HV.out.below BL) (HU.out.below BL) (by omega) (by omega)).mono ?_; rintro e wq ⟨V3, d3, U3, e3, mid3, rfl, o2, o3, _, _, bq⟩; have r3 := o2.ints; have r4 := o3.ints; clear o2 o3; replace xa := box_below xa bq; replace xx9 := box_below xx9 bq; replace xt := box_below xt bq; replace BL := BL.trans (bq.mono BL.size); clear bq)
      | (go_at_call 22; refine (eqTable_any t.lv t.sum V2 U2 V3 U3 tm d2 tk e2 d3 e3 t.vars t.wh _ (HV2.out.below BL) r3 (HU2.out.below BL) r4 (by omega) (by omega)).mono ?_; rintro e wq ⟨rfl, bq⟩; replace xa := box_below xa bq; replace xx9 := box_below xx9 bq; replace xt := box_below xt bq; replace BL := BL.trans (bq.mono BL.size); clear bq)
      | fail)
  have HB9 := Lib.hid (HB.out.trans (BL.mono sw))
  clear xa xx9 BL Xa HB sw la lx xt Xt lt
  go_wp2
  go_ret
  exact ⟨rfl, HB9.out⟩
end Go.Proofs.YtfanpbfmnckmnaaGreat
