/- The turning of servers; printed by gto2.py. -/
import Derived.Test.YtfanpbfmnckmnaaGreatTlC
namespace Go.Proofs.YtfanpbfmnckmnaaGreat
open Go.RowKit

/-- Stores into one block. -/
def puts (w : World) (g : Nat) (l : List (Nat × Value)) : World := l.foldl (fun u p => u.setCell ⟨g, p.1, none⟩ p.2) w
theorem puts_ne {g h : Nat} : ∀ (l : List (Nat × Value)) (w : World), h ≠ g → (puts w g l).heap[h]? = w.heap[h]? := by
  intro l
  induction l with
  | nil => intro w _; rfl
  | cons p l ih => intro w hne; exact (ih (w.setCell ⟨g, p.1, none⟩ p.2) hne).trans (Below.heap_setCell w ⟨g, p.1, none⟩ p.2 h hne)
theorem puts_below {w0 : World} {B g : Nat} : ∀ (l : List (Nat × Value)) (w : World), Below B w0 w → B ≤ g → Below B w0 (puts w g l) := by
  intro l
  induction l with
  | nil => intro w h _; exact h
  | cons p l ih => intro w h hg; exact ih (w.setCell ⟨g, p.1, none⟩ p.2) (h.setCell (by exact hg) _) hg
theorem puts_chg {lo hi g : Nat} {w0 : World} : ∀ (l : List (Nat × Value)) (w : World), Chg lo hi w0 w → lo ≤ g → g < hi → Chg lo hi w0 (puts w g l) := by
  intro l
  induction l with
  | nil => intro w h _ _; exact h
  | cons p l ih => intro w h h1 h2; exact ih (w.setCell ⟨g, p.1, none⟩ p.2) (h.set h1 h2) h1 h2
theorem puts_size {g : Nat} : ∀ (l : List (Nat × Value)) (w : World), (puts w g l).heap.size = w.heap.size := by
  intro l
  induction l with
  | nil => intro w; rfl
  | cons p l ih => intro w; exact (ih (w.setCell ⟨g, p.1, none⟩ p.2)).trans (by simp)

set_option maxRecDepth 100000 in
set_option maxHeartbeats 2000000 in
theorem toServer_law (P A Z Y Q : Option Addr) (g cg n c m cm p cp q cq : Nat) (D : SvD) (w : World) (hx : LawSv w P A Z Y Q g n m p q D) (hb : SvBd 1048576 g n m p q D) :
    Calls Tryz.prog 12 #[.agg #[.slice P g cg, .slice A n c, .slice Z m cm, .slice Y p cp, .int .i64 D.cost.a, .int .i64 D.cost.b, .int .i64 D.cost.c, .int .i64 D.cost.d, .int .i64 D.bud.a, .int .i64 D.bud.b, .int .i64 D.bud.c, .int .i64 D.bud.d, .int .i64 D.floor, .slice Q q cq]] w fun e w' => ∃ P' A' Z' Y' Q' cg' c' cm' cp' cq', e = .returned (.agg #[.slice P' g cg', .slice A' n c', .slice Z' m cm', .slice Y' p cp', .int .i64 D.cost.a, .int .i64 D.cost.b, .int .i64 D.cost.c, .int .i64 D.cost.d, .int .i64 D.bud.a, .int .i64 D.bud.b, .int .i64 D.bud.c, .int .i64 D.bud.d, .int .i64 D.floor, .slice Q' q cq']) ∧ OwnSv w' w.heap.size w'.heap.size P' A' Z' Y' Q' g cg' n c' m cm' p cp' q cq' D ∧ Below w.heap.size w w' := by
  obtain ⟨b0, x1, x2, x3, S⟩ := box_three w #[.slice P g cg, .slice A n c, .slice Z m cm, .slice Y p cp, .int .i64 D.cost.a, .int .i64 D.cost.b, .int .i64 D.cost.c, .int .i64 D.cost.d, .int .i64 D.bud.a, .int .i64 D.bud.b, .int .i64 D.bud.c, .int .i64 D.bud.d, .int .i64 D.floor, .slice Q q cq] #[.slice none 0 0, .slice none 0 0, .slice none 0 0, .slice none 0 0, .int .i64 0, .int .i64 0, .int .i64 0, .int .i64 0, .int .i64 0, .int .i64 0, .int .i64 0, .int .i64 0, .int .i64 0, .slice none 0 0] #[.slice none 0 0, .slice none 0 0, .slice none 0 0, .slice none 0 0, .int .i64 0, .int .i64 0, .int .i64 0, .int .i64 0, .int .i64 0, .int .i64 0, .int .i64 0, .int .i64 0, .int .i64 0, .slice none 0 0] 33 44 44
  have HS := Lib.hid S
  have HX := Lib.hid hx
  have HBD := Lib.hid hb
  have hg0 := hb.bg
  have hn0 := hb.bn
  have hm0 := hb.bm
  have hp0 := hb.bp
  have hq0 := hb.bq
  clear S hx hb
  have Y1 := Lib.hid x1
  have Y2 := Lib.hid x2
  have Y3 := Lib.hid x3
  have HB := Lib.hid b0
  clear x1 x2 x3 b0
  go_enter Tryz.func12, Tryz.ntmps12
  have l1 := lt_of_block Y1.out
  have l3 := lt_of_block Y3.out
  have c10 := box_cell Y1.out 0 _ rfl
  go_wp2_with fail
  clear l1 l3 c10
  generalize (((w.alloc (.cells #[.slice P g cg, .slice A n c, .slice Z m cm, .slice Y p cp, .int .i64 D.cost.a, .int .i64 D.cost.b, .int .i64 D.cost.c, .int .i64 D.cost.d, .int .i64 D.bud.a, .int .i64 D.bud.b, .int .i64 D.bud.c, .int .i64 D.bud.d, .int .i64 D.floor, .slice Q q cq] 33)).alloc (.cells #[.slice none 0 0, .slice none 0 0, .slice none 0 0, .slice none 0 0, .int .i64 0, .int .i64 0, .int .i64 0, .int .i64 0, .int .i64 0, .int .i64 0, .int .i64 0, .int .i64 0, .int .i64 0, .slice none 0 0] 44)).alloc (.cells #[.slice none 0 0, .slice none 0 0, .slice none 0 0, .slice none 0 0, .int .i64 0, .int .i64 0, .int .i64 0, .int .i64 0, .int .i64 0, .int .i64 0, .int .i64 0, .int .i64 0, .int .i64 0, .slice none 0 0] 44)) = w1 at *
  refine (toGeo_any P g cg D.par _ (HX.out.below HB.out).par (by omega)).mono ?_
  rintro e w2 ⟨P', cg', rfl, o0, bb⟩
  have HLO := Lib.hid (show w.heap.size + 1 + 1 + 1 ≤ w2.heap.size by have := bb.size; rw [HS.out] at this; exact this)
  have HL1 := Lib.hid (show w.heap.size + 1 + 1 + 1 ≤ w1.heap.size by rw [HS.out]; exact Nat.le_refl _)
  replace o0 := Lib.hid o0
  replace Y1 := Lib.hid (box_below Y1.out bb)
  replace Y2 := Lib.hid (box_below Y2.out bb)
  replace Y3 := Lib.hid (box_below Y3.out bb)
  replace HB := Lib.hid (HB.out.trans (bb.mono HB.out.size))
  clear bb
  have l1 := lt_of_block Y1.out
  have l3 := lt_of_block Y3.out
  have c11 := box_cell Y1.out 1 _ rfl
  have c30 := box_cell Y3.out 0 _ rfl
  have f30 := box_free Y3.out 0
  go_wp2_with fail
  clear l1 l3 c11 c30 f30
  have Z1 := Lib.hid (show ((w2).setCell ⟨w.heap.size + 1 + 1, 0, none⟩ (.slice P' g cg')).heap[w.heap.size]? = _ from (puts_ne (g := w.heap.size + 1 + 1) [(0, .slice P' g cg')] w2 (by omega)).trans Y1.out)
  have Z2 := Lib.hid (show ((w2).setCell ⟨w.heap.size + 1 + 1, 0, none⟩ (.slice P' g cg')).heap[w.heap.size + 1]? = _ from (puts_ne (g := w.heap.size + 1 + 1) [(0, .slice P' g cg')] w2 (by omega)).trans Y2.out)
  have Z3 := Lib.hid (show ((w2).setCell ⟨w.heap.size + 1 + 1, 0, none⟩ (.slice P' g cg')).heap[w.heap.size + 1 + 1]? = some (.cells #[.slice P' g cg', .slice none 0 0, .slice none 0 0, .slice none 0 0, .int .i64 0, .int .i64 0, .int .i64 0, .int .i64 0, .int .i64 0, .int .i64 0, .int .i64 0, .int .i64 0, .int .i64 0, .slice none 0 0] 44 (0, 0)) from (box_set Y3.out 0 (.slice P' g cg')))
  have ZB := Lib.hid (show Below w.heap.size w ((w2).setCell ⟨w.heap.size + 1 + 1, 0, none⟩ (.slice P' g cg')) from puts_below [(0, .slice P' g cg')] w2 HB.out (by omega))
  have ZC := Lib.hid (show Chg (w.heap.size + 1) (w.heap.size + 1 + 1 + 1) w2 ((w2).setCell ⟨w.heap.size + 1 + 1, 0, none⟩ (.slice P' g cg')) from puts_chg [(0, .slice P' g cg')] w2 (Chg.refl _ _ _) (by omega) (by omega))
  have ZS := Lib.hid (show ((w2).setCell ⟨w.heap.size + 1 + 1, 0, none⟩ (.slice P' g cg')).heap.size = w2.heap.size from puts_size [(0, .slice P' g cg')] w2)
  have zo0 := Lib.hid (o0.out.chg ZC.out (.inr (by have a0 := HLO.out; have a1 := HL1.out; omega)))
  clear Y1 Y2 Y3 HB ZC o0
  generalize (w2).setCell ⟨w.heap.size + 1 + 1, 0, none⟩ (.slice P' g cg') = u1 at *
  have Y1 := Z1
  have Y2 := Z2
  have Y3 := Z3
  have HB := ZB
  clear Z1 Z2 Z3 ZB
  have o0 := zo0
  clear zo0
  refine (toVariableS_law A n c D.vs _ (HX.out.below HB.out).vs (by omega)).mono ?_
  rintro e w3 ⟨A', c', rfl, o1, bb⟩
  rw [ZS.out] at o1
  have HZ1 := Lib.hid (show w2.heap.size ≤ w3.heap.size by have := bb.size; rw [ZS.out] at this; exact this)
  clear ZS
  replace o0 := Lib.hid (o0.out.below bb)
  replace o1 := Lib.hid o1
  replace Y1 := Lib.hid (box_below Y1.out bb)
  replace Y2 := Lib.hid (box_below Y2.out bb)
  replace Y3 := Lib.hid (box_below Y3.out bb)
  replace HB := Lib.hid (HB.out.trans (bb.mono HB.out.size))
  clear bb
  have l1 := lt_of_block Y1.out
  have l3 := lt_of_block Y3.out
  have c12 := box_cell Y1.out 2 _ rfl
  have c31 := box_cell Y3.out 1 _ rfl
  have f31 := box_free Y3.out 1
  go_wp2_with fail
  clear l1 l3 c12 c31 f31
  have Z1 := Lib.hid (show ((w3).setCell ⟨w.heap.size + 1 + 1, 1, none⟩ (.slice A' n c')).heap[w.heap.size]? = _ from (puts_ne (g := w.heap.size + 1 + 1) [(1, .slice A' n c')] w3 (by omega)).trans Y1.out)
  have Z2 := Lib.hid (show ((w3).setCell ⟨w.heap.size + 1 + 1, 1, none⟩ (.slice A' n c')).heap[w.heap.size + 1]? = _ from (puts_ne (g := w.heap.size + 1 + 1) [(1, .slice A' n c')] w3 (by omega)).trans Y2.out)
  have Z3 := Lib.hid (show ((w3).setCell ⟨w.heap.size + 1 + 1, 1, none⟩ (.slice A' n c')).heap[w.heap.size + 1 + 1]? = some (.cells #[.slice P' g cg', .slice A' n c', .slice none 0 0, .slice none 0 0, .int .i64 0, .int .i64 0, .int .i64 0, .int .i64 0, .int .i64 0, .int .i64 0, .int .i64 0, .int .i64 0, .int .i64 0, .slice none 0 0] 44 (0, 0)) from (box_set Y3.out 1 (.slice A' n c')))
  have ZB := Lib.hid (show Below w.heap.size w ((w3).setCell ⟨w.heap.size + 1 + 1, 1, none⟩ (.slice A' n c')) from puts_below [(1, .slice A' n c')] w3 HB.out (by omega))
  have ZC := Lib.hid (show Chg (w.heap.size + 1) (w.heap.size + 1 + 1 + 1) w3 ((w3).setCell ⟨w.heap.size + 1 + 1, 1, none⟩ (.slice A' n c')) from puts_chg [(1, .slice A' n c')] w3 (Chg.refl _ _ _) (by omega) (by omega))
  have ZS := Lib.hid (show ((w3).setCell ⟨w.heap.size + 1 + 1, 1, none⟩ (.slice A' n c')).heap.size = w3.heap.size from puts_size [(1, .slice A' n c')] w3)
  have zo0 := Lib.hid (o0.out.chg ZC.out (.inr (by have a0 := HLO.out; have a1 := HL1.out; have a2 := HZ1.out; omega)))
  have zo1 := Lib.hid (o1.out.chg ZC.out (.inr (by have a0 := HLO.out; have a1 := HL1.out; have a2 := HZ1.out; omega)))
  clear Y1 Y2 Y3 HB ZC o0 o1
  generalize (w3).setCell ⟨w.heap.size + 1 + 1, 1, none⟩ (.slice A' n c') = u2 at *
  have Y1 := Z1
  have Y2 := Z2
  have Y3 := Z3
  have HB := ZB
  clear Z1 Z2 Z3 ZB
  have o0 := zo0
  clear zo0
  have o1 := zo1
  clear zo1
  refine (toRecordS_law Z m cm D.rs _ (HX.out.below HB.out).rs (by omega) (fun j hj => Nat.le_trans (HBD.out.rs j hj) (by omega))).mono ?_
  rintro e w4 ⟨Z', cm', rfl, o2, bb⟩
  rw [ZS.out] at o2
  have HZ2 := Lib.hid (show w3.heap.size ≤ w4.heap.size by have := bb.size; rw [ZS.out] at this; exact this)
  clear ZS
  replace o0 := Lib.hid (o0.out.below bb)
  replace o1 := Lib.hid (o1.out.below bb)
  replace o2 := Lib.hid o2
  replace Y1 := Lib.hid (box_below Y1.out bb)
  replace Y2 := Lib.hid (box_below Y2.out bb)
  replace Y3 := Lib.hid (box_below Y3.out bb)
  replace HB := Lib.hid (HB.out.trans (bb.mono HB.out.size))
  clear bb
  have l1 := lt_of_block Y1.out
  have l3 := lt_of_block Y3.out
  have c13 := box_cell Y1.out 3 _ rfl
  have c32 := box_cell Y3.out 2 _ rfl
  have f32 := box_free Y3.out 2
  go_wp2_with fail
  clear l1 l3 c13 c32 f32
  have Z1 := Lib.hid (show ((w4).setCell ⟨w.heap.size + 1 + 1, 2, none⟩ (.slice Z' m cm')).heap[w.heap.size]? = _ from (puts_ne (g := w.heap.size + 1 + 1) [(2, .slice Z' m cm')] w4 (by omega)).trans Y1.out)
  have Z2 := Lib.hid (show ((w4).setCell ⟨w.heap.size + 1 + 1, 2, none⟩ (.slice Z' m cm')).heap[w.heap.size + 1]? = _ from (puts_ne (g := w.heap.size + 1 + 1) [(2, .slice Z' m cm')] w4 (by omega)).trans Y2.out)
  have Z3 := Lib.hid (show ((w4).setCell ⟨w.heap.size + 1 + 1, 2, none⟩ (.slice Z' m cm')).heap[w.heap.size + 1 + 1]? = some (.cells #[.slice P' g cg', .slice A' n c', .slice Z' m cm', .slice none 0 0, .int .i64 0, .int .i64 0, .int .i64 0, .int .i64 0, .int .i64 0, .int .i64 0, .int .i64 0, .int .i64 0, .int .i64 0, .slice none 0 0] 44 (0, 0)) from (box_set Y3.out 2 (.slice Z' m cm')))
  have ZB := Lib.hid (show Below w.heap.size w ((w4).setCell ⟨w.heap.size + 1 + 1, 2, none⟩ (.slice Z' m cm')) from puts_below [(2, .slice Z' m cm')] w4 HB.out (by omega))
  have ZC := Lib.hid (show Chg (w.heap.size + 1) (w.heap.size + 1 + 1 + 1) w4 ((w4).setCell ⟨w.heap.size + 1 + 1, 2, none⟩ (.slice Z' m cm')) from puts_chg [(2, .slice Z' m cm')] w4 (Chg.refl _ _ _) (by omega) (by omega))
  have ZS := Lib.hid (show ((w4).setCell ⟨w.heap.size + 1 + 1, 2, none⟩ (.slice Z' m cm')).heap.size = w4.heap.size from puts_size [(2, .slice Z' m cm')] w4)
  have zo0 := Lib.hid (o0.out.chg ZC.out (.inr (by have a0 := HLO.out; have a1 := HL1.out; have a2 := HZ1.out; have a3 := HZ2.out; omega)))
  have zo1 := Lib.hid (o1.out.chg ZC.out (.inr (by have a0 := HLO.out; have a1 := HL1.out; have a2 := HZ1.out; have a3 := HZ2.out; omega)))
  have zo2 := Lib.hid (o2.out.chg ZC.out (.inr (by have a0 := HLO.out; have a1 := HL1.out; have a2 := HZ1.out; have a3 := HZ2.out; omega)))
  clear Y1 Y2 Y3 HB ZC o0 o1 o2
  generalize (w4).setCell ⟨w.heap.size + 1 + 1, 2, none⟩ (.slice Z' m cm') = u3 at *
  have Y1 := Z1
  have Y2 := Z2
  have Y3 := Z3
  have HB := ZB
  clear Z1 Z2 Z3 ZB
  have o0 := zo0
  clear zo0
  have o1 := zo1
  clear zo1
  have o2 := zo2
  clear zo2
  refine (toTableS_law Y p cp D.plan _ (HX.out.below HB.out).plan (by omega) (fun j hj => ⟨Nat.le_trans ((HBD.out.plan j hj).1) (by omega), Nat.le_trans ((HBD.out.plan j hj).2) (by omega)⟩)).mono ?_
  rintro e w5 ⟨Y', cp', rfl, hcp, o3, bb⟩
  rw [ZS.out] at o3
  have HZ3 := Lib.hid (show w4.heap.size ≤ w5.heap.size by have := bb.size; rw [ZS.out] at this; exact this)
  clear ZS
  replace o0 := Lib.hid (o0.out.below bb)
  replace o1 := Lib.hid (o1.out.below bb)
  replace o2 := Lib.hid (o2.out.below bb)
  replace o3 := Lib.hid o3
  replace Y1 := Lib.hid (box_below Y1.out bb)
  replace Y2 := Lib.hid (box_below Y2.out bb)
  replace Y3 := Lib.hid (box_below Y3.out bb)
  replace HB := Lib.hid (HB.out.trans (bb.mono HB.out.size))
  clear bb
  have l1 := lt_of_block Y1.out
  have l3 := lt_of_block Y3.out
  have c14 := box_cell Y1.out 4 _ rfl
  have c15 := box_cell Y1.out 5 _ rfl
  have c16 := box_cell Y1.out 6 _ rfl
  have c17 := box_cell Y1.out 7 _ rfl
  have c33 := box_cell Y3.out 3 _ rfl
  have f33 := box_free Y3.out 3
  go_wp2_with fail
  clear l1 l3 c14 c15 c16 c17 c33 f33
  have Z1 := Lib.hid (show ((w5).setCell ⟨w.heap.size + 1 + 1, 3, none⟩ (.slice Y' p cp')).heap[w.heap.size]? = _ from (puts_ne (g := w.heap.size + 1 + 1) [(3, .slice Y' p cp')] w5 (by omega)).trans Y1.out)
  have Z2 := Lib.hid (show ((w5).setCell ⟨w.heap.size + 1 + 1, 3, none⟩ (.slice Y' p cp')).heap[w.heap.size + 1]? = _ from (puts_ne (g := w.heap.size + 1 + 1) [(3, .slice Y' p cp')] w5 (by omega)).trans Y2.out)
  have Z3 := Lib.hid (show ((w5).setCell ⟨w.heap.size + 1 + 1, 3, none⟩ (.slice Y' p cp')).heap[w.heap.size + 1 + 1]? = some (.cells #[.slice P' g cg', .slice A' n c', .slice Z' m cm', .slice Y' p cp', .int .i64 0, .int .i64 0, .int .i64 0, .int .i64 0, .int .i64 0, .int .i64 0, .int .i64 0, .int .i64 0, .int .i64 0, .slice none 0 0] 44 (0, 0)) from (box_set Y3.out 3 (.slice Y' p cp')))
  have ZB := Lib.hid (show Below w.heap.size w ((w5).setCell ⟨w.heap.size + 1 + 1, 3, none⟩ (.slice Y' p cp')) from puts_below [(3, .slice Y' p cp')] w5 HB.out (by omega))
  have ZC := Lib.hid (show Chg (w.heap.size + 1) (w.heap.size + 1 + 1 + 1) w5 ((w5).setCell ⟨w.heap.size + 1 + 1, 3, none⟩ (.slice Y' p cp')) from puts_chg [(3, .slice Y' p cp')] w5 (Chg.refl _ _ _) (by omega) (by omega))
  have ZS := Lib.hid (show ((w5).setCell ⟨w.heap.size + 1 + 1, 3, none⟩ (.slice Y' p cp')).heap.size = w5.heap.size from puts_size [(3, .slice Y' p cp')] w5)
  have zo0 := Lib.hid (o0.out.chg ZC.out (.inr (by have a0 := HLO.out; have a1 := HL1.out; have a2 := HZ1.out; have a3 := HZ2.out; have a4 := HZ3.out; omega)))
  have zo1 := Lib.hid (o1.out.chg ZC.out (.inr (by have a0 := HLO.out; have a1 := HL1.out; have a2 := HZ1.out; have a3 := HZ2.out; have a4 := HZ3.out; omega)))
  have zo2 := Lib.hid (o2.out.chg ZC.out (.inr (by have a0 := HLO.out; have a1 := HL1.out; have a2 := HZ1.out; have a3 := HZ2.out; have a4 := HZ3.out; omega)))
  have zo3 := Lib.hid (o3.out.chg ZC.out (.inr (by have a0 := HLO.out; have a1 := HL1.out; have a2 := HZ1.out; have a3 := HZ2.out; have a4 := HZ3.out; omega)))
  clear Y1 Y2 Y3 HB ZC o0 o1 o2 o3
  generalize (w5).setCell ⟨w.heap.size + 1 + 1, 3, none⟩ (.slice Y' p cp') = u4 at *
  have Y1 := Z1
  have Y2 := Z2
  have Y3 := Z3
  have HB := ZB
  clear Z1 Z2 Z3 ZB
  have o0 := zo0
  clear zo0
  have o1 := zo1
  clear zo1
  have o2 := zo2
  clear zo2
  have o3 := zo3
  clear zo3
  refine (toLoss_any D.cost _).mono ?_
  rintro e w6 ⟨rfl, bb⟩
  have HZ4 := Lib.hid (show w5.heap.size ≤ w6.heap.size by have := bb.size; rw [ZS.out] at this; exact this)
  clear ZS
  replace o0 := Lib.hid (o0.out.below bb)
  replace o1 := Lib.hid (o1.out.below bb)
  replace o2 := Lib.hid (o2.out.below bb)
  replace o3 := Lib.hid (o3.out.below bb)
  replace Y1 := Lib.hid (box_below Y1.out bb)
  replace Y2 := Lib.hid (box_below Y2.out bb)
  replace Y3 := Lib.hid (box_below Y3.out bb)
  replace HB := Lib.hid (HB.out.trans (bb.mono HB.out.size))
  clear bb
  have l1 := lt_of_block Y1.out
  have l3 := lt_of_block Y3.out
  have c18 := box_cell Y1.out 8 _ rfl
  have c19 := box_cell Y1.out 9 _ rfl
  have c110 := box_cell Y1.out 10 _ rfl
  have c111 := box_cell Y1.out 11 _ rfl
  have c34 := box_cell Y3.out 4 _ rfl
  have f34 := box_free Y3.out 4
  have c35 := box_cell Y3.out 5 _ rfl
  have f35 := box_free Y3.out 5
  have c36 := box_cell Y3.out 6 _ rfl
  have f36 := box_free Y3.out 6
  have c37 := box_cell Y3.out 7 _ rfl
  have f37 := box_free Y3.out 7
  go_wp2_with fail
  clear l1 l3 c18 c19 c110 c111 c34 f34 c35 f35 c36 f36 c37 f37
  have Z1 := Lib.hid (show (((((w6).setCell ⟨w.heap.size + 1 + 1, 4, none⟩ (.int .i64 D.cost.a)).setCell ⟨w.heap.size + 1 + 1, 5, none⟩ (.int .i64 D.cost.b)).setCell ⟨w.heap.size + 1 + 1, 6, none⟩ (.int .i64 D.cost.c)).setCell ⟨w.heap.size + 1 + 1, 7, none⟩ (.int .i64 D.cost.d)).heap[w.heap.size]? = _ from (puts_ne (g := w.heap.size + 1 + 1) [(4, .int .i64 D.cost.a), (5, .int .i64 D.cost.b), (6, .int .i64 D.cost.c), (7, .int .i64 D.cost.d)] w6 (by omega)).trans Y1.out)
  have Z2 := Lib.hid (show (((((w6).setCell ⟨w.heap.size + 1 + 1, 4, none⟩ (.int .i64 D.cost.a)).setCell ⟨w.heap.size + 1 + 1, 5, none⟩ (.int .i64 D.cost.b)).setCell ⟨w.heap.size + 1 + 1, 6, none⟩ (.int .i64 D.cost.c)).setCell ⟨w.heap.size + 1 + 1, 7, none⟩ (.int .i64 D.cost.d)).heap[w.heap.size + 1]? = _ from (puts_ne (g := w.heap.size + 1 + 1) [(4, .int .i64 D.cost.a), (5, .int .i64 D.cost.b), (6, .int .i64 D.cost.c), (7, .int .i64 D.cost.d)] w6 (by omega)).trans Y2.out)
  have Z3 := Lib.hid (show (((((w6).setCell ⟨w.heap.size + 1 + 1, 4, none⟩ (.int .i64 D.cost.a)).setCell ⟨w.heap.size + 1 + 1, 5, none⟩ (.int .i64 D.cost.b)).setCell ⟨w.heap.size + 1 + 1, 6, none⟩ (.int .i64 D.cost.c)).setCell ⟨w.heap.size + 1 + 1, 7, none⟩ (.int .i64 D.cost.d)).heap[w.heap.size + 1 + 1]? = some (.cells #[.slice P' g cg', .slice A' n c', .slice Z' m cm', .slice Y' p cp', .int .i64 D.cost.a, .int .i64 D.cost.b, .int .i64 D.cost.c, .int .i64 D.cost.d, .int .i64 0, .int .i64 0, .int .i64 0, .int .i64 0, .int .i64 0, .slice none 0 0] 44 (0, 0)) from (box_set (box_set (box_set (box_set Y3.out 4 (.int .i64 D.cost.a)) 5 (.int .i64 D.cost.b)) 6 (.int .i64 D.cost.c)) 7 (.int .i64 D.cost.d)))
  have ZB := Lib.hid (show Below w.heap.size w (((((w6).setCell ⟨w.heap.size + 1 + 1, 4, none⟩ (.int .i64 D.cost.a)).setCell ⟨w.heap.size + 1 + 1, 5, none⟩ (.int .i64 D.cost.b)).setCell ⟨w.heap.size + 1 + 1, 6, none⟩ (.int .i64 D.cost.c)).setCell ⟨w.heap.size + 1 + 1, 7, none⟩ (.int .i64 D.cost.d)) from puts_below [(4, .int .i64 D.cost.a), (5, .int .i64 D.cost.b), (6, .int .i64 D.cost.c), (7, .int .i64 D.cost.d)] w6 HB.out (by omega))
  have ZC := Lib.hid (show Chg (w.heap.size + 1) (w.heap.size + 1 + 1 + 1) w6 (((((w6).setCell ⟨w.heap.size + 1 + 1, 4, none⟩ (.int .i64 D.cost.a)).setCell ⟨w.heap.size + 1 + 1, 5, none⟩ (.int .i64 D.cost.b)).setCell ⟨w.heap.size + 1 + 1, 6, none⟩ (.int .i64 D.cost.c)).setCell ⟨w.heap.size + 1 + 1, 7, none⟩ (.int .i64 D.cost.d)) from puts_chg [(4, .int .i64 D.cost.a), (5, .int .i64 D.cost.b), (6, .int .i64 D.cost.c), (7, .int .i64 D.cost.d)] w6 (Chg.refl _ _ _) (by omega) (by omega))
  have ZS := Lib.hid (show (((((w6).setCell ⟨w.heap.size + 1 + 1, 4, none⟩ (.int .i64 D.cost.a)).setCell ⟨w.heap.size + 1 + 1, 5, none⟩ (.int .i64 D.cost.b)).setCell ⟨w.heap.size + 1 + 1, 6, none⟩ (.int .i64 D.cost.c)).setCell ⟨w.heap.size + 1 + 1, 7, none⟩ (.int .i64 D.cost.d)).heap.size = w6.heap.size from puts_size [(4, .int .i64 D.cost.a), (5, .int .i64 D.cost.b), (6, .int .i64 D.cost.c), (7, .int .i64 D.cost.d)] w6)
  have zo0 := Lib.hid (o0.out.chg ZC.out (.inr (by have a0 := HLO.out; have a1 := HL1.out; have a2 := HZ1.out; have a3 := HZ2.out; have a4 := HZ3.out; have a5 := HZ4.out; omega)))
  have zo1 := Lib.hid (o1.out.chg ZC.out (.inr (by have a0 := HLO.out; have a1 := HL1.out; have a2 := HZ1.out; have a3 := HZ2.out; have a4 := HZ3.out; have a5 := HZ4.out; omega)))
  have zo2 := Lib.hid (o2.out.chg ZC.out (.inr (by have a0 := HLO.out; have a1 := HL1.out; have a2 := HZ1.out; have a3 := HZ2.out; have a4 := HZ3.out; have a5 := HZ4.out; omega)))
  have zo3 := Lib.hid (o3.out.chg ZC.out (.inr (by have a0 := HLO.out; have a1 := HL1.out; have a2 := HZ1.out; have a3 := HZ2.out; have a4 := HZ3.out; have a5 := HZ4.out; omega)))
  clear Y1 Y2 Y3 HB ZC o0 o1 o2 o3
  generalize ((((w6).setCell ⟨w.heap.size + 1 + 1, 4, none⟩ (.int .i64 D.cost.a)).setCell ⟨w.heap.size + 1 + 1, 5, none⟩ (.int .i64 D.cost.b)).setCell ⟨w.heap.size + 1 + 1, 6, none⟩ (.int .i64 D.cost.c)).setCell ⟨w.heap.size + 1 + 1, 7, none⟩ (.int .i64 D.cost.d) = u5 at *
  have Y1 := Z1
  have Y2 := Z2
  have Y3 := Z3
  have HB := ZB
  clear Z1 Z2 Z3 ZB
  have o0 := zo0
  clear zo0
  have o1 := zo1
  clear zo1
  have o2 := zo2
  clear zo2
  have o3 := zo3
  clear zo3
  refine (toLoss_any D.bud _).mono ?_
  rintro e w7 ⟨rfl, bb⟩
  have HZ5 := Lib.hid (show w6.heap.size ≤ w7.heap.size by have := bb.size; rw [ZS.out] at this; exact this)
  clear ZS
  replace o0 := Lib.hid (o0.out.below bb)
  replace o1 := Lib.hid (o1.out.below bb)
  replace o2 := Lib.hid (o2.out.below bb)
  replace o3 := Lib.hid (o3.out.below bb)
  replace Y1 := Lib.hid (box_below Y1.out bb)
  replace Y2 := Lib.hid (box_below Y2.out bb)
  replace Y3 := Lib.hid (box_below Y3.out bb)
  replace HB := Lib.hid (HB.out.trans (bb.mono HB.out.size))
  clear bb
  have l1 := lt_of_block Y1.out
  have l3 := lt_of_block Y3.out
  have c112 := box_cell Y1.out 12 _ rfl
  have c113 := box_cell Y1.out 13 _ rfl
  have c38 := box_cell Y3.out 8 _ rfl
  have f38 := box_free Y3.out 8
  have c39 := box_cell Y3.out 9 _ rfl
  have f39 := box_free Y3.out 9
  have c310 := box_cell Y3.out 10 _ rfl
  have f310 := box_free Y3.out 10
  have c311 := box_cell Y3.out 11 _ rfl
  have f311 := box_free Y3.out 11
  have c312 := box_cell Y3.out 12 _ rfl
  have f312 := box_free Y3.out 12
  go_wp2_with fail
  clear l1 l3 c112 c113 c38 f38 c39 f39 c310 f310 c311 f311 c312 f312
  have Z1 := Lib.hid (show ((((((w7).setCell ⟨w.heap.size + 1 + 1, 8, none⟩ (.int .i64 D.bud.a)).setCell ⟨w.heap.size + 1 + 1, 9, none⟩ (.int .i64 D.bud.b)).setCell ⟨w.heap.size + 1 + 1, 10, none⟩ (.int .i64 D.bud.c)).setCell ⟨w.heap.size + 1 + 1, 11, none⟩ (.int .i64 D.bud.d)).setCell ⟨w.heap.size + 1 + 1, 12, none⟩ (.int .i64 D.floor)).heap[w.heap.size]? = _ from (puts_ne (g := w.heap.size + 1 + 1) [(8, .int .i64 D.bud.a), (9, .int .i64 D.bud.b), (10, .int .i64 D.bud.c), (11, .int .i64 D.bud.d), (12, .int .i64 D.floor)] w7 (by omega)).trans Y1.out)
  have Z2 := Lib.hid (show ((((((w7).setCell ⟨w.heap.size + 1 + 1, 8, none⟩ (.int .i64 D.bud.a)).setCell ⟨w.heap.size + 1 + 1, 9, none⟩ (.int .i64 D.bud.b)).setCell ⟨w.heap.size + 1 + 1, 10, none⟩ (.int .i64 D.bud.c)).setCell ⟨w.heap.size + 1 + 1, 11, none⟩ (.int .i64 D.bud.d)).setCell ⟨w.heap.size + 1 + 1, 12, none⟩ (.int .i64 D.floor)).heap[w.heap.size + 1]? = _ from (puts_ne (g := w.heap.size + 1 + 1) [(8, .int .i64 D.bud.a), (9, .int .i64 D.bud.b), (10, .int .i64 D.bud.c), (11, .int .i64 D.bud.d), (12, .int .i64 D.floor)] w7 (by omega)).trans Y2.out)
  have Z3 := Lib.hid (show ((((((w7).setCell ⟨w.heap.size + 1 + 1, 8, none⟩ (.int .i64 D.bud.a)).setCell ⟨w.heap.size + 1 + 1, 9, none⟩ (.int .i64 D.bud.b)).setCell ⟨w.heap.size + 1 + 1, 10, none⟩ (.int .i64 D.bud.c)).setCell ⟨w.heap.size + 1 + 1, 11, none⟩ (.int .i64 D.bud.d)).setCell ⟨w.heap.size + 1 + 1, 12, none⟩ (.int .i64 D.floor)).heap[w.heap.size + 1 + 1]? = some (.cells #[.slice P' g cg', .slice A' n c', .slice Z' m cm', .slice Y' p cp', .int .i64 D.cost.a, .int .i64 D.cost.b, .int .i64 D.cost.c, .int .i64 D.cost.d, .int .i64 D.bud.a, .int .i64 D.bud.b, .int .i64 D.bud.c, .int .i64 D.bud.d, .int .i64 D.floor, .slice none 0 0] 44 (0, 0)) from (box_set (box_set (box_set (box_set (box_set Y3.out 8 (.int .i64 D.bud.a)) 9 (.int .i64 D.bud.b)) 10 (.int .i64 D.bud.c)) 11 (.int .i64 D.bud.d)) 12 (.int .i64 D.floor)))
  have ZB := Lib.hid (show Below w.heap.size w ((((((w7).setCell ⟨w.heap.size + 1 + 1, 8, none⟩ (.int .i64 D.bud.a)).setCell ⟨w.heap.size + 1 + 1, 9, none⟩ (.int .i64 D.bud.b)).setCell ⟨w.heap.size + 1 + 1, 10, none⟩ (.int .i64 D.bud.c)).setCell ⟨w.heap.size + 1 + 1, 11, none⟩ (.int .i64 D.bud.d)).setCell ⟨w.heap.size + 1 + 1, 12, none⟩ (.int .i64 D.floor)) from puts_below [(8, .int .i64 D.bud.a), (9, .int .i64 D.bud.b), (10, .int .i64 D.bud.c), (11, .int .i64 D.bud.d), (12, .int .i64 D.floor)] w7 HB.out (by omega))
  have ZC := Lib.hid (show Chg (w.heap.size + 1) (w.heap.size + 1 + 1 + 1) w7 ((((((w7).setCell ⟨w.heap.size + 1 + 1, 8, none⟩ (.int .i64 D.bud.a)).setCell ⟨w.heap.size + 1 + 1, 9, none⟩ (.int .i64 D.bud.b)).setCell ⟨w.heap.size + 1 + 1, 10, none⟩ (.int .i64 D.bud.c)).setCell ⟨w.heap.size + 1 + 1, 11, none⟩ (.int .i64 D.bud.d)).setCell ⟨w.heap.size + 1 + 1, 12, none⟩ (.int .i64 D.floor)) from puts_chg [(8, .int .i64 D.bud.a), (9, .int .i64 D.bud.b), (10, .int .i64 D.bud.c), (11, .int .i64 D.bud.d), (12, .int .i64 D.floor)] w7 (Chg.refl _ _ _) (by omega) (by omega))
  have ZS := Lib.hid (show ((((((w7).setCell ⟨w.heap.size + 1 + 1, 8, none⟩ (.int .i64 D.bud.a)).setCell ⟨w.heap.size + 1 + 1, 9, none⟩ (.int .i64 D.bud.b)).setCell ⟨w.heap.size + 1 + 1, 10, none⟩ (.int .i64 D.bud.c)).setCell ⟨w.heap.size + 1 + 1, 11, none⟩ (.int .i64 D.bud.d)).setCell ⟨w.heap.size + 1 + 1, 12, none⟩ (.int .i64 D.floor)).heap.size = w7.heap.size from puts_size [(8, .int .i64 D.bud.a), (9, .int .i64 D.bud.b), (10, .int .i64 D.bud.c), (11, .int .i64 D.bud.d), (12, .int .i64 D.floor)] w7)
  have zo0 := Lib.hid (o0.out.chg ZC.out (.inr (by have a0 := HLO.out; have a1 := HL1.out; have a2 := HZ1.out; have a3 := HZ2.out; have a4 := HZ3.out; have a5 := HZ4.out; have a6 := HZ5.out; omega)))
  have zo1 := Lib.hid (o1.out.chg ZC.out (.inr (by have a0 := HLO.out; have a1 := HL1.out; have a2 := HZ1.out; have a3 := HZ2.out; have a4 := HZ3.out; have a5 := HZ4.out; have a6 := HZ5.out; omega)))
  have zo2 := Lib.hid (o2.out.chg ZC.out (.inr (by have a0 := HLO.out; have a1 := HL1.out; have a2 := HZ1.out; have a3 := HZ2.out; have a4 := HZ3.out; have a5 := HZ4.out; have a6 := HZ5.out; omega)))
  have zo3 := Lib.hid (o3.out.chg ZC.out (.inr (by have a0 := HLO.out; have a1 := HL1.out; have a2 := HZ1.out; have a3 := HZ2.out; have a4 := HZ3.out; have a5 := HZ4.out; have a6 := HZ5.out; omega)))
  clear Y1 Y2 Y3 HB ZC o0 o1 o2 o3
  generalize (((((w7).setCell ⟨w.heap.size + 1 + 1, 8, none⟩ (.int .i64 D.bud.a)).setCell ⟨w.heap.size + 1 + 1, 9, none⟩ (.int .i64 D.bud.b)).setCell ⟨w.heap.size + 1 + 1, 10, none⟩ (.int .i64 D.bud.c)).setCell ⟨w.heap.size + 1 + 1, 11, none⟩ (.int .i64 D.bud.d)).setCell ⟨w.heap.size + 1 + 1, 12, none⟩ (.int .i64 D.floor) = u6 at *
  have Y1 := Z1
  have Y2 := Z2
  have Y3 := Z3
  have HB := ZB
  clear Z1 Z2 Z3 ZB
  have o0 := zo0
  clear zo0
  have o1 := zo1
  clear zo1
  have o2 := zo2
  clear zo2
  have o3 := zo3
  clear zo3
  refine (toTableS_law Q q cq D.asked _ (HX.out.below HB.out).asked (by omega) (fun j hj => ⟨Nat.le_trans ((HBD.out.asked j hj).1) (by omega), Nat.le_trans ((HBD.out.asked j hj).2) (by omega)⟩)).mono ?_
  rintro e w8 ⟨Q', cq', rfl, hcq, o4, bb⟩
  rw [ZS.out] at o4
  have HZ6 := Lib.hid (show w7.heap.size ≤ w8.heap.size by have := bb.size; rw [ZS.out] at this; exact this)
  clear ZS
  replace o0 := Lib.hid (o0.out.below bb)
  replace o1 := Lib.hid (o1.out.below bb)
  replace o2 := Lib.hid (o2.out.below bb)
  replace o3 := Lib.hid (o3.out.below bb)
  replace o4 := Lib.hid o4
  replace Y1 := Lib.hid (box_below Y1.out bb)
  replace Y2 := Lib.hid (box_below Y2.out bb)
  replace Y3 := Lib.hid (box_below Y3.out bb)
  replace HB := Lib.hid (HB.out.trans (bb.mono HB.out.size))
  clear bb
  have l2 := lt_of_block Y2.out
  have l3 := lt_of_block Y3.out
  have c20 := box_cell Y2.out 0 _ rfl
  have f20 := box_free Y2.out 0
  have c30 := box_cell Y3.out 0 _ rfl
  have c21 := box_cell Y2.out 1 _ rfl
  have f21 := box_free Y2.out 1
  have c31 := box_cell Y3.out 1 _ rfl
  have c22 := box_cell Y2.out 2 _ rfl
  have f22 := box_free Y2.out 2
  have c32 := box_cell Y3.out 2 _ rfl
  have c23 := box_cell Y2.out 3 _ rfl
  have f23 := box_free Y2.out 3
  have c33 := box_cell Y3.out 3 _ rfl
  have c24 := box_cell Y2.out 4 _ rfl
  have f24 := box_free Y2.out 4
  have c34 := box_cell Y3.out 4 _ rfl
  have c25 := box_cell Y2.out 5 _ rfl
  have f25 := box_free Y2.out 5
  have c35 := box_cell Y3.out 5 _ rfl
  have c26 := box_cell Y2.out 6 _ rfl
  have f26 := box_free Y2.out 6
  have c36 := box_cell Y3.out 6 _ rfl
  have c27 := box_cell Y2.out 7 _ rfl
  have f27 := box_free Y2.out 7
  have c37 := box_cell Y3.out 7 _ rfl
  have c28 := box_cell Y2.out 8 _ rfl
  have f28 := box_free Y2.out 8
  have c38 := box_cell Y3.out 8 _ rfl
  have c29 := box_cell Y2.out 9 _ rfl
  have f29 := box_free Y2.out 9
  have c39 := box_cell Y3.out 9 _ rfl
  have c210 := box_cell Y2.out 10 _ rfl
  have f210 := box_free Y2.out 10
  have c310 := box_cell Y3.out 10 _ rfl
  have c211 := box_cell Y2.out 11 _ rfl
  have f211 := box_free Y2.out 11
  have c311 := box_cell Y3.out 11 _ rfl
  have c212 := box_cell Y2.out 12 _ rfl
  have f212 := box_free Y2.out 12
  have c312 := box_cell Y3.out 12 _ rfl
  have c213 := box_cell Y2.out 13 _ rfl
  have f213 := box_free Y2.out 13
  have c313 := box_cell Y3.out 13 _ rfl
  have f313 := box_free Y3.out 13
  clear Y1 Y2 Y3
  go_wp2
  have KC := puts_chg (g := w.heap.size + 1) [(0, .slice P' g cg'), (1, .slice A' n c'), (2, .slice Z' m cm'), (3, .slice Y' p cp'), (4, .int .i64 D.cost.a), (5, .int .i64 D.cost.b), (6, .int .i64 D.cost.c), (7, .int .i64 D.cost.d), (8, .int .i64 D.bud.a), (9, .int .i64 D.bud.b), (10, .int .i64 D.bud.c), (11, .int .i64 D.bud.d), (12, .int .i64 D.floor), (13, .slice Q' q cq')] _ (puts_chg (g := w.heap.size + 1 + 1) [(13, .slice Q' q cq')] w8 (Chg.refl (w.heap.size + 1) (w.heap.size + 1 + 1 + 1) w8) (by omega) (by omega)) (by omega) (by omega)
  refine bodyPost_ret (v := .agg #[.slice P' g cg', .slice A' n c', .slice Z' m cm', .slice Y' p cp', .int .i64 D.cost.a, .int .i64 D.cost.b, .int .i64 D.cost.c, .int .i64 D.cost.d, .int .i64 D.bud.a, .int .i64 D.bud.b, .int .i64 D.bud.c, .int .i64 D.bud.d, .int .i64 D.floor, .slice Q' q cq']) (by simp [results, Tryz.results12, go_sem, c20, c21, c22, c23, c24, c25, c26, c27, c28, c29, c210, c211, c212, c213]) rfl ⟨P', A', Z', Y', Q', cg', c', cm', cp', cq', rfl, ?_, puts_below (g := w.heap.size + 1) [(0, .slice P' g cg'), (1, .slice A' n c'), (2, .slice Z' m cm'), (3, .slice Y' p cp'), (4, .int .i64 D.cost.a), (5, .int .i64 D.cost.b), (6, .int .i64 D.cost.c), (7, .int .i64 D.cost.d), (8, .int .i64 D.bud.a), (9, .int .i64 D.bud.b), (10, .int .i64 D.bud.c), (11, .int .i64 D.bud.d), (12, .int .i64 D.floor), (13, .slice Q' q cq')] _ (puts_below (g := w.heap.size + 1 + 1) [(13, .slice Q' q cq')] w8 HB.out (by omega)) (by omega)⟩
  have s0 := HB.out.size
  have a0 := HLO.out
  have a1 := HL1.out
  have a2 := HZ1.out
  have a3 := HZ2.out
  have a4 := HZ3.out
  have a5 := HZ4.out
  have a6 := HZ5.out
  have a7 := HZ6.out
  have k0 := o0.out.chg KC (.inr (by omega))
  have k1 := o1.out.chg KC (.inr (by omega))
  have k2 := o2.out.chg KC (.inr (by omega))
  have k3 := o3.out.chg KC (.inr (by omega))
  have k4 := o4.out.chg KC (.inr (by omega))
  have hsz := (puts_size (g := w.heap.size + 1) [(0, .slice P' g cg'), (1, .slice A' n c'), (2, .slice Z' m cm'), (3, .slice Y' p cp'), (4, .int .i64 D.cost.a), (5, .int .i64 D.cost.b), (6, .int .i64 D.cost.c), (7, .int .i64 D.cost.d), (8, .int .i64 D.bud.a), (9, .int .i64 D.bud.b), (10, .int .i64 D.bud.c), (11, .int .i64 D.bud.d), (12, .int .i64 D.floor), (13, .slice Q' q cq')] (puts w8 (w.heap.size + 1 + 1) [(13, .slice Q' q cq')])).trans (puts_size (g := w.heap.size + 1 + 1) [(13, .slice Q' q cq')] w8)
  rw [← hsz] at k4
  exact ⟨hcp, hcq, w2.heap.size, w3.heap.size, w4.heap.size, w5.heap.size, w7.heap.size, by omega, by omega, by omega, by omega, by omega, Nat.le_trans (show w7.heap.size ≤ w8.heap.size by omega) (Nat.le_of_eq hsz.symm), ⟨k0.own.mono (by omega), k0.top, k0.small⟩, k1, k2, k3, k4⟩
end Go.Proofs.YtfanpbfmnckmnaaGreat
