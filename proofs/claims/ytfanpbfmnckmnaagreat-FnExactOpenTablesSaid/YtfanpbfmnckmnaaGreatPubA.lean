/- The public functions of servers, of the program and of the reference; printed by gpu.py. -/
import Derived.Test.YtfanpbfmnckmnaaGreatTlC
namespace Go.Proofs.YtfanpbfmnckmnaaGreat
open Go.RowKit

section
variable {D : SvD} {t : TabD}
theorem svB_parts (h : svB D = true) : geoB D.par = true ∧ schB D.vs = true ∧ surB D.par D.vs D.rs = true ∧ losB D.cost = true ∧ losB D.bud = true ∧ allTo (planOk D) D.plan.length = true ∧ allTo (askOk D) D.asked.length = true := by
  unfold svB at h
  simp only [Bool.and_eq_true, decide_eq_true_eq] at h
  obtain ⟨h1, h2, h3, _, h5, h6, _, h8, h9⟩ := h
  exact ⟨h1, h2, h3, h5, h6, h8, h9⟩
theorem sv_ok (h : svB D = true) : SurOk D := ⟨(svB_parts h).1, (svB_parts h).2.1, (svB_parts h).2.2.1⟩
theorem sv_los (h : svB D = true) : LosOk D.cost ∧ LosOk D.bud := ⟨losB_ok (svB_parts h).2.2.2.1, losB_ok (svB_parts h).2.2.2.2.1⟩
theorem sv_asks (h : svB D = true) {q : Nat} (hq : D.asked.length = q) (j : Nat) (hj : j < q) : tabB D.par D.vs (tX D.asked j) = true := code0_tab (askOk_code (allTo_of (svB_parts h).2.2.2.2.2.2 j (by omega)))
/-- The answers of the public functions. -/
def ansO (D : SvD) : Option LosD := if svB D = true then costO D.cost D.asked.length else none
def gapB (D : SvD) (t : TabD) : Bool := svB D && tabB D.par D.vs t
def gapL (D : SvD) (t : TabD) : Int := if gapB D t = true then gapV D D.asked t else 0
def qcV (D : SvD) (t : TabD) : Int := if svB D = true then codeV D D.asked t else 0
theorem ansO_no (h : svB D = false) : ansO D = none := by unfold ansO; rw [if_neg (by rw [h]; simp)]
theorem ansO_yes (h : svB D = true) {q : Nat} (hq : D.asked.length = q) : costO D.cost q = ansO D := by unfold ansO; rw [if_pos h, hq]
theorem gapB_1 (h : svB D = false) : gapB D t = false := by unfold gapB; rw [h]; rfl
theorem gapB_2 (h : tabB D.par D.vs t = false) : gapB D t = false := by unfold gapB; rw [h]; simp
theorem gapB_3 (h1 : svB D = true) (h : tabB D.par D.vs t = true) : gapB D t = true := by unfold gapB; rw [h, h1]; rfl
theorem gap_no (h : gapB D t = false) : Ending.returned (.tuple #[.int .i64 0, .bool false]) = .returned (.tuple #[.int .i64 (gapL D t), .bool (gapB D t)]) := by unfold gapL; rw [h]; rfl
theorem gap_yes (h : gapB D t = true) : Ending.returned (.tuple #[.int .i64 (gapV D D.asked t), .bool true]) = .returned (.tuple #[.int .i64 (gapL D t), .bool (gapB D t)]) := by unfold gapL; rw [h]; rfl
theorem qc_no (h : svB D = false) : Ending.returned (.tuple #[.int .i64 0, .bool false]) = .returned (.tuple #[.int .i64 (qcV D t), .bool (svB D)]) := by unfold qcV; rw [h]; rfl
theorem qc_yes (h : svB D = true) : Ending.returned (.tuple #[.int .i64 (codeV D D.asked t), .bool true]) = .returned (.tuple #[.int .i64 (qcV D t), .bool (svB D)]) := by unfold qcV; rw [h]; rfl
end

set_option maxRecDepth 100000 in
set_option maxHeartbeats 2000000 in
theorem implLeastGap_law (P A Z Y Q : Option Addr) (g cg n c m cm p cp q cq : Nat) (D : SvD) (V U : Option Addr) (tm td tk te : Nat) (t : TabD) (w : World) (h : SvR w P A Z Y Q g n c m p cp q cq D) (hT : TabR w V tm U tk t) :
    Calls Tryz.prog 21 #[.agg #[.slice P g cg, .slice A n c, .slice Z m cm, .slice Y p cp, .int .i64 D.cost.a, .int .i64 D.cost.b, .int .i64 D.cost.c, .int .i64 D.cost.d, .int .i64 D.bud.a, .int .i64 D.bud.b, .int .i64 D.bud.c, .int .i64 D.bud.d, .int .i64 D.floor, .slice Q q cq], .agg #[.int .i64 t.lv, .slice V tm td, .slice U tk te, .int .i64 t.sum]] w fun e w' => e = .returned (.tuple #[.int .i64 (gapL D t), .bool (gapB D t)]) ∧ Below w.heap.size w w' := by
  obtain ⟨b0, xs, xt⟩ := box_two w #[.slice P g cg, .slice A n c, .slice Z m cm, .slice Y p cp, .int .i64 D.cost.a, .int .i64 D.cost.b, .int .i64 D.cost.c, .int .i64 D.cost.d, .int .i64 D.bud.a, .int .i64 D.bud.b, .int .i64 D.bud.c, .int .i64 D.bud.d, .int .i64 D.floor, .slice Q q cq] #[.int .i64 t.lv, .slice V tm td, .slice U tk te, .int .i64 t.sum] 44 56
  have Xs := Lib.hid xs
  have Xt := Lib.hid xt
  have HB := Lib.hid b0
  have HV := Lib.hid (h.below b0)
  have HT := Lib.hid (hT.below b0)
  clear b0 xs xt h hT
  go_enter Tryz.func21, Tryz.ntmps21
  have ls := lt_of_block Xs.out
  have cs0 := box_cell Xs.out 0 _ rfl
  have cs1 := box_cell Xs.out 1 _ rfl
  have cs2 := box_cell Xs.out 2 _ rfl
  have cs3 := box_cell Xs.out 3 _ rfl
  have cs4 := box_cell Xs.out 4 _ rfl
  have cs5 := box_cell Xs.out 5 _ rfl
  have cs6 := box_cell Xs.out 6 _ rfl
  have cs7 := box_cell Xs.out 7 _ rfl
  have cs8 := box_cell Xs.out 8 _ rfl
  have cs9 := box_cell Xs.out 9 _ rfl
  have cs10 := box_cell Xs.out 10 _ rfl
  have cs11 := box_cell Xs.out 11 _ rfl
  have cs12 := box_cell Xs.out 12 _ rfl
  have cs13 := box_cell Xs.out 13 _ rfl
  go_wp2_with fail
  clear ls cs0 cs1 cs2 cs3 cs4 cs5 cs6 cs7 cs8 cs9 cs10 cs11 cs12 cs13
  generalize (w.alloc (.cells #[.slice P g cg, .slice A n c, .slice Z m cm, .slice Y p cp, .int .i64 D.cost.a, .int .i64 D.cost.b, .int .i64 D.cost.c, .int .i64 D.cost.d, .int .i64 D.bud.a, .int .i64 D.bud.b, .int .i64 D.bud.c, .int .i64 D.bud.d, .int .i64 D.floor, .slice Q q cq] 44)).alloc (.cells #[.int .i64 t.lv, .slice V tm td, .slice U tk te, .int .i64 t.sum] 56) = w0 at *
  refine (IsServer_any P A Z Y Q g cg n c m cm p cp q cq D _ HV.out.hcp HV.out.hcq HV.out.sur HV.out.plan HV.out.asked).mono ?_
  rintro e w1 ⟨rfl, b1⟩
  replace Xs := Lib.hid (box_below Xs.out b1)
  replace Xt := Lib.hid (box_below Xt.out b1)
  replace HB := Lib.hid (HB.out.trans (b1.mono HB.out.size))
  replace HV := Lib.hid (HV.out.below b1)
  replace HT := Lib.hid (HT.out.below b1)
  clear b1
  cases hs : svB D
  · have R := Lib.hid (gap_no (t := t) (gapB_1 hs))
    clear hs
    go_wp2
    go_ret2
    exact ⟨R.out, HB.out⟩
  have HS := Lib.hid hs
  clear hs
  have ls := lt_of_block Xs.out
  have cs0 := box_cell Xs.out 0 _ rfl
  have cs1 := box_cell Xs.out 1 _ rfl
  have lt := lt_of_block Xt.out
  have ct0 := box_cell Xt.out 0 _ rfl
  have ct1 := box_cell Xt.out 1 _ rfl
  have ct2 := box_cell Xt.out 2 _ rfl
  have ct3 := box_cell Xt.out 3 _ rfl
  go_wp2_with fail
  clear ls cs0 cs1 lt ct0 ct1 ct2 ct3
  have hgeo := geoB_of (sv_ok HS.out).g
  rw [HV.out.sur.p.len] at hgeo
  have HGE := Lib.hid hgeo
  clear hgeo
  refine (isTable_any P A V U g cg n c tm td tk te D.par t D.vs _ HGE.out (sv_ok HS.out).s HV.out.sur.p HV.out.sur.s HT.out).mono ?_
  rintro e w2 ⟨rfl, b2⟩
  replace Xs := Lib.hid (box_below Xs.out b2)
  replace Xt := Lib.hid (box_below Xt.out b2)
  replace HB := Lib.hid (HB.out.trans (b2.mono HB.out.size))
  replace HV := Lib.hid (HV.out.below b2)
  replace HT := Lib.hid (HT.out.below b2)
  clear b2
  cases ht : tabB D.par D.vs t
  · have R := Lib.hid (gap_no (t := t) (gapB_2 ht))
    clear ht
    go_wp2
    go_ret2
    exact ⟨R.out, HB.out⟩
  have H1 := Lib.hid ht
  clear ht
  have ls := lt_of_block Xs.out
  have cs0 := box_cell Xs.out 0 _ rfl
  have cs1 := box_cell Xs.out 1 _ rfl
  have cs2 := box_cell Xs.out 2 _ rfl
  have cs3 := box_cell Xs.out 3 _ rfl
  have cs4 := box_cell Xs.out 4 _ rfl
  have cs5 := box_cell Xs.out 5 _ rfl
  have cs6 := box_cell Xs.out 6 _ rfl
  have cs7 := box_cell Xs.out 7 _ rfl
  have cs8 := box_cell Xs.out 8 _ rfl
  have cs9 := box_cell Xs.out 9 _ rfl
  have cs10 := box_cell Xs.out 10 _ rfl
  have cs11 := box_cell Xs.out 11 _ rfl
  have cs12 := box_cell Xs.out 12 _ rfl
  have cs13 := box_cell Xs.out 13 _ rfl
  have lt := lt_of_block Xt.out
  have ct0 := box_cell Xt.out 0 _ rfl
  have ct1 := box_cell Xt.out 1 _ rfl
  have ct2 := box_cell Xt.out 2 _ rfl
  have ct3 := box_cell Xt.out 3 _ rfl
  go_wp2_with fail
  clear ls cs0 cs1 cs2 cs3 cs4 cs5 cs6 cs7 cs8 cs9 cs10 cs11 cs12 cs13 lt ct0 ct1 ct2 ct3
  refine (leastGap_any P A Z Y Q g cg n c m cm p cp q cq D V U tm td tk te t D.asked _ (sv_ok HS.out) H1.out (sv_asks HS.out HV.out.asked.len) HV.out.sur HT.out HV.out.asked).mono ?_
  rintro e w3 ⟨rfl, b3⟩
  replace Xs := Lib.hid (box_below Xs.out b3)
  replace Xt := Lib.hid (box_below Xt.out b3)
  replace HB := Lib.hid (HB.out.trans (b3.mono HB.out.size))
  replace HV := Lib.hid (HV.out.below b3)
  replace HT := Lib.hid (HT.out.below b3)
  clear b3
  have R := Lib.hid (gap_yes (t := t) (gapB_3 HS.out H1.out))
  go_wp2
  go_ret2
  exact ⟨R.out, HB.out⟩

set_option maxRecDepth 100000 in
set_option maxHeartbeats 2000000 in
theorem implQueryCode_law (P A Z Y Q : Option Addr) (g cg n c m cm p cp q cq : Nat) (D : SvD) (V U : Option Addr) (tm td tk te : Nat) (t : TabD) (w : World) (h : SvR w P A Z Y Q g n c m p cp q cq D) (hT : TabR w V tm U tk t) :
    Calls Tryz.prog 24 #[.agg #[.slice P g cg, .slice A n c, .slice Z m cm, .slice Y p cp, .int .i64 D.cost.a, .int .i64 D.cost.b, .int .i64 D.cost.c, .int .i64 D.cost.d, .int .i64 D.bud.a, .int .i64 D.bud.b, .int .i64 D.bud.c, .int .i64 D.bud.d, .int .i64 D.floor, .slice Q q cq], .agg #[.int .i64 t.lv, .slice V tm td, .slice U tk te, .int .i64 t.sum]] w fun e w' => e = .returned (.tuple #[.int .i64 (qcV D t), .bool (svB D)]) ∧ Below w.heap.size w w' := by
  obtain ⟨b0, xs, xt⟩ := box_two w #[.slice P g cg, .slice A n c, .slice Z m cm, .slice Y p cp, .int .i64 D.cost.a, .int .i64 D.cost.b, .int .i64 D.cost.c, .int .i64 D.cost.d, .int .i64 D.bud.a, .int .i64 D.bud.b, .int .i64 D.bud.c, .int .i64 D.bud.d, .int .i64 D.floor, .slice Q q cq] #[.int .i64 t.lv, .slice V tm td, .slice U tk te, .int .i64 t.sum] 44 56
  have Xs := Lib.hid xs
  have Xt := Lib.hid xt
  have HB := Lib.hid b0
  have HV := Lib.hid (h.below b0)
  have HT := Lib.hid (hT.below b0)
  clear b0 xs xt h hT
  go_enter Tryz.func24, Tryz.ntmps24
  have ls := lt_of_block Xs.out
  have cs0 := box_cell Xs.out 0 _ rfl
  have cs1 := box_cell Xs.out 1 _ rfl
  have cs2 := box_cell Xs.out 2 _ rfl
  have cs3 := box_cell Xs.out 3 _ rfl
  have cs4 := box_cell Xs.out 4 _ rfl
  have cs5 := box_cell Xs.out 5 _ rfl
  have cs6 := box_cell Xs.out 6 _ rfl
  have cs7 := box_cell Xs.out 7 _ rfl
  have cs8 := box_cell Xs.out 8 _ rfl
  have cs9 := box_cell Xs.out 9 _ rfl
  have cs10 := box_cell Xs.out 10 _ rfl
  have cs11 := box_cell Xs.out 11 _ rfl
  have cs12 := box_cell Xs.out 12 _ rfl
  have cs13 := box_cell Xs.out 13 _ rfl
  go_wp2_with fail
  clear ls cs0 cs1 cs2 cs3 cs4 cs5 cs6 cs7 cs8 cs9 cs10 cs11 cs12 cs13
  generalize (w.alloc (.cells #[.slice P g cg, .slice A n c, .slice Z m cm, .slice Y p cp, .int .i64 D.cost.a, .int .i64 D.cost.b, .int .i64 D.cost.c, .int .i64 D.cost.d, .int .i64 D.bud.a, .int .i64 D.bud.b, .int .i64 D.bud.c, .int .i64 D.bud.d, .int .i64 D.floor, .slice Q q cq] 44)).alloc (.cells #[.int .i64 t.lv, .slice V tm td, .slice U tk te, .int .i64 t.sum] 56) = w0 at *
  refine (IsServer_any P A Z Y Q g cg n c m cm p cp q cq D _ HV.out.hcp HV.out.hcq HV.out.sur HV.out.plan HV.out.asked).mono ?_
  rintro e w1 ⟨rfl, b1⟩
  replace Xs := Lib.hid (box_below Xs.out b1)
  replace Xt := Lib.hid (box_below Xt.out b1)
  replace HB := Lib.hid (HB.out.trans (b1.mono HB.out.size))
  replace HV := Lib.hid (HV.out.below b1)
  replace HT := Lib.hid (HT.out.below b1)
  clear b1
  cases hs : svB D
  · have R := Lib.hid (qc_no (t := t) hs)
    clear hs
    go_wp2
    go_ret2
    exact ⟨R.out, HB.out⟩
  have HS := Lib.hid hs
  clear hs
  have ls := lt_of_block Xs.out
  have cs0 := box_cell Xs.out 0 _ rfl
  have cs1 := box_cell Xs.out 1 _ rfl
  have cs2 := box_cell Xs.out 2 _ rfl
  have cs3 := box_cell Xs.out 3 _ rfl
  have cs4 := box_cell Xs.out 4 _ rfl
  have cs5 := box_cell Xs.out 5 _ rfl
  have cs6 := box_cell Xs.out 6 _ rfl
  have cs7 := box_cell Xs.out 7 _ rfl
  have cs8 := box_cell Xs.out 8 _ rfl
  have cs9 := box_cell Xs.out 9 _ rfl
  have cs10 := box_cell Xs.out 10 _ rfl
  have cs11 := box_cell Xs.out 11 _ rfl
  have cs12 := box_cell Xs.out 12 _ rfl
  have cs13 := box_cell Xs.out 13 _ rfl
  have lt := lt_of_block Xt.out
  have ct0 := box_cell Xt.out 0 _ rfl
  have ct1 := box_cell Xt.out 1 _ rfl
  have ct2 := box_cell Xt.out 2 _ rfl
  have ct3 := box_cell Xt.out 3 _ rfl
  go_wp2_with fail
  clear ls cs0 cs1 cs2 cs3 cs4 cs5 cs6 cs7 cs8 cs9 cs10 cs11 cs12 cs13 lt ct0 ct1 ct2 ct3
  refine (queryCode_any P A Z Y Q g cg n c m cm p cp q cq D V U tm td tk te t D.asked _ (sv_ok HS.out) (sv_los HS.out).1 (sv_los HS.out).2 (sv_asks HS.out HV.out.asked.len) HV.out.sur HT.out HV.out.plan HV.out.asked).mono ?_
  rintro e w3 ⟨rfl, b3⟩
  replace Xs := Lib.hid (box_below Xs.out b3)
  replace Xt := Lib.hid (box_below Xt.out b3)
  replace HB := Lib.hid (HB.out.trans (b3.mono HB.out.size))
  replace HV := Lib.hid (HV.out.below b3)
  replace HT := Lib.hid (HT.out.below b3)
  clear b3
  have R := Lib.hid (qc_yes (t := t) HS.out)
  go_wp2
  go_ret2
  exact ⟨R.out, HB.out⟩

set_option maxRecDepth 100000 in
set_option maxHeartbeats 2000000 in
theorem specLeastGap_law (P A Z Y Q : Option Addr) (g cg n c m cm p cp q cq : Nat) (D : SvD) (V U : Option Addr) (tm td tk te : Nat) (t : TabD) (w : World) (h : SvR w P A Z Y Q g n c m p cp q cq D) (hT : TabR w V tm U tk t) :
    Calls Tryz.prog 19 #[.agg #[.slice P g cg, .slice A n c, .slice Z m cm, .slice Y p cp, .int .i64 D.cost.a, .int .i64 D.cost.b, .int .i64 D.cost.c, .int .i64 D.cost.d, .int .i64 D.bud.a, .int .i64 D.bud.b, .int .i64 D.bud.c, .int .i64 D.bud.d, .int .i64 D.floor, .slice Q q cq], .agg #[.int .i64 t.lv, .slice V tm td, .slice U tk te, .int .i64 t.sum]] w fun e w' => e = .returned (.tuple #[.int .i64 (gapL D t), .bool (gapB D t)]) ∧ Below w.heap.size w w' := by
  obtain ⟨b0, xs, xt⟩ := box_two w #[.slice P g cg, .slice A n c, .slice Z m cm, .slice Y p cp, .int .i64 D.cost.a, .int .i64 D.cost.b, .int .i64 D.cost.c, .int .i64 D.cost.d, .int .i64 D.bud.a, .int .i64 D.bud.b, .int .i64 D.bud.c, .int .i64 D.bud.d, .int .i64 D.floor, .slice Q q cq] #[.int .i64 t.lv, .slice V tm td, .slice U tk te, .int .i64 t.sum] 44 56
  have Xs := Lib.hid xs
  have Xt := Lib.hid xt
  have HB := Lib.hid b0
  have HV := Lib.hid (h.below b0)
  have HT := Lib.hid (hT.below b0)
  clear b0 xs xt h hT
  go_enter Tryz.func19, Tryz.ntmps19
  have ls := lt_of_block Xs.out
  have cs0 := box_cell Xs.out 0 _ rfl
  have cs1 := box_cell Xs.out 1 _ rfl
  have cs2 := box_cell Xs.out 2 _ rfl
  have cs3 := box_cell Xs.out 3 _ rfl
  have cs4 := box_cell Xs.out 4 _ rfl
  have cs5 := box_cell Xs.out 5 _ rfl
  have cs6 := box_cell Xs.out 6 _ rfl
  have cs7 := box_cell Xs.out 7 _ rfl
  have cs8 := box_cell Xs.out 8 _ rfl
  have cs9 := box_cell Xs.out 9 _ rfl
  have cs10 := box_cell Xs.out 10 _ rfl
  have cs11 := box_cell Xs.out 11 _ rfl
  have cs12 := box_cell Xs.out 12 _ rfl
  have cs13 := box_cell Xs.out 13 _ rfl
  go_wp2_with fail
  clear ls cs0 cs1 cs2 cs3 cs4 cs5 cs6 cs7 cs8 cs9 cs10 cs11 cs12 cs13
  generalize (w.alloc (.cells #[.slice P g cg, .slice A n c, .slice Z m cm, .slice Y p cp, .int .i64 D.cost.a, .int .i64 D.cost.b, .int .i64 D.cost.c, .int .i64 D.cost.d, .int .i64 D.bud.a, .int .i64 D.bud.b, .int .i64 D.bud.c, .int .i64 D.bud.d, .int .i64 D.floor, .slice Q q cq] 44)).alloc (.cells #[.int .i64 t.lv, .slice V tm td, .slice U tk te, .int .i64 t.sum] 56) = w0 at *
  refine (jGood_any P A Z Y Q g cg n c m cm p cp q cq D _ HV.out.hcp HV.out.hcq HV.out.sur HV.out.plan HV.out.asked).mono ?_
  rintro e w1 ⟨rfl, b1⟩
  replace Xs := Lib.hid (box_below Xs.out b1)
  replace Xt := Lib.hid (box_below Xt.out b1)
  replace HB := Lib.hid (HB.out.trans (b1.mono HB.out.size))
  replace HV := Lib.hid (HV.out.below b1)
  replace HT := Lib.hid (HT.out.below b1)
  clear b1
  cases hs : svB D
  · have R := Lib.hid (gap_no (t := t) (gapB_1 hs))
    clear hs
    go_wp2
    go_ret2
    exact ⟨R.out, HB.out⟩
  have HS := Lib.hid hs
  clear hs
  have ls := lt_of_block Xs.out
  have cs0 := box_cell Xs.out 0 _ rfl
  have cs1 := box_cell Xs.out 1 _ rfl
  have lt := lt_of_block Xt.out
  have ct0 := box_cell Xt.out 0 _ rfl
  have ct1 := box_cell Xt.out 1 _ rfl
  have ct2 := box_cell Xt.out 2 _ rfl
  have ct3 := box_cell Xt.out 3 _ rfl
  go_wp2_with fail
  clear ls cs0 cs1 lt ct0 ct1 ct2 ct3
  refine (uGood_any P A V U g cg n c tm td tk te D.par t D.vs _ HV.out.sur.p HV.out.sur.s HT.out).mono ?_
  rintro e w2 ⟨rfl, b2⟩
  rw [allB_eq (sv_ok HS.out)]
  replace Xs := Lib.hid (box_below Xs.out b2)
  replace Xt := Lib.hid (box_below Xt.out b2)
  replace HB := Lib.hid (HB.out.trans (b2.mono HB.out.size))
  replace HV := Lib.hid (HV.out.below b2)
  replace HT := Lib.hid (HT.out.below b2)
  clear b2
  cases ht : tabB D.par D.vs t
  · have R := Lib.hid (gap_no (t := t) (gapB_2 ht))
    clear ht
    go_wp2
    go_ret2
    exact ⟨R.out, HB.out⟩
  have H1 := Lib.hid ht
  clear ht
  have ls := lt_of_block Xs.out
  have cs0 := box_cell Xs.out 0 _ rfl
  have cs1 := box_cell Xs.out 1 _ rfl
  have cs2 := box_cell Xs.out 2 _ rfl
  have cs3 := box_cell Xs.out 3 _ rfl
  have cs4 := box_cell Xs.out 4 _ rfl
  have cs5 := box_cell Xs.out 5 _ rfl
  have cs6 := box_cell Xs.out 6 _ rfl
  have cs7 := box_cell Xs.out 7 _ rfl
  have cs8 := box_cell Xs.out 8 _ rfl
  have cs9 := box_cell Xs.out 9 _ rfl
  have cs10 := box_cell Xs.out 10 _ rfl
  have cs11 := box_cell Xs.out 11 _ rfl
  have cs12 := box_cell Xs.out 12 _ rfl
  have cs13 := box_cell Xs.out 13 _ rfl
  have lt := lt_of_block Xt.out
  have ct0 := box_cell Xt.out 0 _ rfl
  have ct1 := box_cell Xt.out 1 _ rfl
  have ct2 := box_cell Xt.out 2 _ rfl
  have ct3 := box_cell Xt.out 3 _ rfl
  go_wp2_with fail
  clear ls cs0 cs1 cs2 cs3 cs4 cs5 cs6 cs7 cs8 cs9 cs10 cs11 cs12 cs13 lt ct0 ct1 ct2 ct3
  refine (jGap_any P A Z Y Q g cg n c m cm p cp q cq D V U Q tm td tk te q cq t D.asked _ (sv_ok HS.out) H1.out (sv_asks HS.out HV.out.asked.len) HV.out.sur HT.out HV.out.asked).mono ?_
  rintro e w3 ⟨rfl, b3⟩
  replace Xs := Lib.hid (box_below Xs.out b3)
  replace Xt := Lib.hid (box_below Xt.out b3)
  replace HB := Lib.hid (HB.out.trans (b3.mono HB.out.size))
  replace HV := Lib.hid (HV.out.below b3)
  replace HT := Lib.hid (HT.out.below b3)
  clear b3
  have R := Lib.hid (gap_yes (t := t) (gapB_3 HS.out H1.out))
  go_wp2
  go_ret2
  exact ⟨R.out, HB.out⟩

set_option maxRecDepth 100000 in
set_option maxHeartbeats 2000000 in
theorem specQueryCode_law (P A Z Y Q : Option Addr) (g cg n c m cm p cp q cq : Nat) (D : SvD) (V U : Option Addr) (tm td tk te : Nat) (t : TabD) (w : World) (h : SvR w P A Z Y Q g n c m p cp q cq D) (hT : TabR w V tm U tk t) :
    Calls Tryz.prog 23 #[.agg #[.slice P g cg, .slice A n c, .slice Z m cm, .slice Y p cp, .int .i64 D.cost.a, .int .i64 D.cost.b, .int .i64 D.cost.c, .int .i64 D.cost.d, .int .i64 D.bud.a, .int .i64 D.bud.b, .int .i64 D.bud.c, .int .i64 D.bud.d, .int .i64 D.floor, .slice Q q cq], .agg #[.int .i64 t.lv, .slice V tm td, .slice U tk te, .int .i64 t.sum]] w fun e w' => e = .returned (.tuple #[.int .i64 (qcV D t), .bool (svB D)]) ∧ Below w.heap.size w w' := by
  obtain ⟨b0, xs, xt⟩ := box_two w #[.slice P g cg, .slice A n c, .slice Z m cm, .slice Y p cp, .int .i64 D.cost.a, .int .i64 D.cost.b, .int .i64 D.cost.c, .int .i64 D.cost.d, .int .i64 D.bud.a, .int .i64 D.bud.b, .int .i64 D.bud.c, .int .i64 D.bud.d, .int .i64 D.floor, .slice Q q cq] #[.int .i64 t.lv, .slice V tm td, .slice U tk te, .int .i64 t.sum] 44 56
  have Xs := Lib.hid xs
  have Xt := Lib.hid xt
  have HB := Lib.hid b0
  have HV := Lib.hid (h.below b0)
  have HT := Lib.hid (hT.below b0)
  clear b0 xs xt h hT
  go_enter Tryz.func23, Tryz.ntmps23
  have ls := lt_of_block Xs.out
  have cs0 := box_cell Xs.out 0 _ rfl
  have cs1 := box_cell Xs.out 1 _ rfl
  have cs2 := box_cell Xs.out 2 _ rfl
  have cs3 := box_cell Xs.out 3 _ rfl
  have cs4 := box_cell Xs.out 4 _ rfl
  have cs5 := box_cell Xs.out 5 _ rfl
  have cs6 := box_cell Xs.out 6 _ rfl
  have cs7 := box_cell Xs.out 7 _ rfl
  have cs8 := box_cell Xs.out 8 _ rfl
  have cs9 := box_cell Xs.out 9 _ rfl
  have cs10 := box_cell Xs.out 10 _ rfl
  have cs11 := box_cell Xs.out 11 _ rfl
  have cs12 := box_cell Xs.out 12 _ rfl
  have cs13 := box_cell Xs.out 13 _ rfl
  go_wp2_with fail
  clear ls cs0 cs1 cs2 cs3 cs4 cs5 cs6 cs7 cs8 cs9 cs10 cs11 cs12 cs13
  generalize (w.alloc (.cells #[.slice P g cg, .slice A n c, .slice Z m cm, .slice Y p cp, .int .i64 D.cost.a, .int .i64 D.cost.b, .int .i64 D.cost.c, .int .i64 D.cost.d, .int .i64 D.bud.a, .int .i64 D.bud.b, .int .i64 D.bud.c, .int .i64 D.bud.d, .int .i64 D.floor, .slice Q q cq] 44)).alloc (.cells #[.int .i64 t.lv, .slice V tm td, .slice U tk te, .int .i64 t.sum] 56) = w0 at *
  refine (jGood_any P A Z Y Q g cg n c m cm p cp q cq D _ HV.out.hcp HV.out.hcq HV.out.sur HV.out.plan HV.out.asked).mono ?_
  rintro e w1 ⟨rfl, b1⟩
  replace Xs := Lib.hid (box_below Xs.out b1)
  replace Xt := Lib.hid (box_below Xt.out b1)
  replace HB := Lib.hid (HB.out.trans (b1.mono HB.out.size))
  replace HV := Lib.hid (HV.out.below b1)
  replace HT := Lib.hid (HT.out.below b1)
  clear b1
  cases hs : svB D
  · have R := Lib.hid (qc_no (t := t) hs)
    clear hs
    go_wp2
    go_ret2
    exact ⟨R.out, HB.out⟩
  have HS := Lib.hid hs
  clear hs
  have ls := lt_of_block Xs.out
  have cs0 := box_cell Xs.out 0 _ rfl
  have cs1 := box_cell Xs.out 1 _ rfl
  have cs2 := box_cell Xs.out 2 _ rfl
  have cs3 := box_cell Xs.out 3 _ rfl
  have cs4 := box_cell Xs.out 4 _ rfl
  have cs5 := box_cell Xs.out 5 _ rfl
  have cs6 := box_cell Xs.out 6 _ rfl
  have cs7 := box_cell Xs.out 7 _ rfl
  have cs8 := box_cell Xs.out 8 _ rfl
  have cs9 := box_cell Xs.out 9 _ rfl
  have cs10 := box_cell Xs.out 10 _ rfl
  have cs11 := box_cell Xs.out 11 _ rfl
  have cs12 := box_cell Xs.out 12 _ rfl
  have cs13 := box_cell Xs.out 13 _ rfl
  have lt := lt_of_block Xt.out
  have ct0 := box_cell Xt.out 0 _ rfl
  have ct1 := box_cell Xt.out 1 _ rfl
  have ct2 := box_cell Xt.out 2 _ rfl
  have ct3 := box_cell Xt.out 3 _ rfl
  go_wp2_with fail
  clear ls cs0 cs1 cs2 cs3 cs4 cs5 cs6 cs7 cs8 cs9 cs10 cs11 cs12 cs13 lt ct0 ct1 ct2 ct3
  refine (jCode_any P A Z Y Q g cg n c m cm p cp q cq D V U Q tm td tk te q cq t D.asked _ (sv_ok HS.out) (sv_los HS.out).1 (sv_los HS.out).2 (sv_asks HS.out HV.out.asked.len) HV.out.sur HT.out HV.out.plan HV.out.asked).mono ?_
  rintro e w3 ⟨rfl, b3⟩
  replace Xs := Lib.hid (box_below Xs.out b3)
  replace Xt := Lib.hid (box_below Xt.out b3)
  replace HB := Lib.hid (HB.out.trans (b3.mono HB.out.size))
  replace HV := Lib.hid (HV.out.below b3)
  replace HT := Lib.hid (HT.out.below b3)
  clear b3
  have R := Lib.hid (qc_yes (t := t) HS.out)
  go_wp2
  go_ret2
  exact ⟨R.out, HB.out⟩

set_option maxRecDepth 100000 in
set_option maxHeartbeats 2000000 in
theorem specIsServer_law (P A Z Y Q : Option Addr) (g cg n c m cm p cp q cq : Nat) (D : SvD) (w : World) (h : SvR w P A Z Y Q g n c m p cp q cq D) :
    Calls Tryz.prog 11 #[.agg #[.slice P g cg, .slice A n c, .slice Z m cm, .slice Y p cp, .int .i64 D.cost.a, .int .i64 D.cost.b, .int .i64 D.cost.c, .int .i64 D.cost.d, .int .i64 D.bud.a, .int .i64 D.bud.b, .int .i64 D.bud.c, .int .i64 D.bud.d, .int .i64 D.floor, .slice Q q cq]] w fun e w' => e = .returned (.bool (svB D)) ∧ Below w.heap.size w w' := by
  have b0 := below_new w (.cells #[.slice P g cg, .slice A n c, .slice Z m cm, .slice Y p cp, .int .i64 D.cost.a, .int .i64 D.cost.b, .int .i64 D.cost.c, .int .i64 D.cost.d, .int .i64 D.bud.a, .int .i64 D.bud.b, .int .i64 D.bud.c, .int .i64 D.bud.d, .int .i64 D.floor, .slice Q q cq] 44)
  have Xs := Lib.hid (box_new w #[.slice P g cg, .slice A n c, .slice Z m cm, .slice Y p cp, .int .i64 D.cost.a, .int .i64 D.cost.b, .int .i64 D.cost.c, .int .i64 D.cost.d, .int .i64 D.bud.a, .int .i64 D.bud.b, .int .i64 D.bud.c, .int .i64 D.bud.d, .int .i64 D.floor, .slice Q q cq] 44)
  have HB := Lib.hid b0
  have HV := Lib.hid (h.below b0)
  clear b0 h
  go_enter Tryz.func11, Tryz.ntmps11
  have ls := lt_of_block Xs.out
  have cs0 := box_cell Xs.out 0 _ rfl
  have cs1 := box_cell Xs.out 1 _ rfl
  have cs2 := box_cell Xs.out 2 _ rfl
  have cs3 := box_cell Xs.out 3 _ rfl
  have cs4 := box_cell Xs.out 4 _ rfl
  have cs5 := box_cell Xs.out 5 _ rfl
  have cs6 := box_cell Xs.out 6 _ rfl
  have cs7 := box_cell Xs.out 7 _ rfl
  have cs8 := box_cell Xs.out 8 _ rfl
  have cs9 := box_cell Xs.out 9 _ rfl
  have cs10 := box_cell Xs.out 10 _ rfl
  have cs11 := box_cell Xs.out 11 _ rfl
  have cs12 := box_cell Xs.out 12 _ rfl
  have cs13 := box_cell Xs.out 13 _ rfl
  go_wp2_with fail
  clear ls cs0 cs1 cs2 cs3 cs4 cs5 cs6 cs7 cs8 cs9 cs10 cs11 cs12 cs13
  generalize w.alloc (.cells #[.slice P g cg, .slice A n c, .slice Z m cm, .slice Y p cp, .int .i64 D.cost.a, .int .i64 D.cost.b, .int .i64 D.cost.c, .int .i64 D.cost.d, .int .i64 D.bud.a, .int .i64 D.bud.b, .int .i64 D.bud.c, .int .i64 D.bud.d, .int .i64 D.floor, .slice Q q cq] 44) = w0 at *
  refine (jGood_any P A Z Y Q g cg n c m cm p cp q cq D _ HV.out.hcp HV.out.hcq HV.out.sur HV.out.plan HV.out.asked).mono ?_
  rintro e w1 ⟨rfl, b1⟩
  replace Xs := Lib.hid (box_below Xs.out b1)
  replace HB := Lib.hid (HB.out.trans (b1.mono HB.out.size))
  replace HV := Lib.hid (HV.out.below b1)
  clear b1
  go_wp2
  go_ret
  exact ⟨rfl, HB.out⟩

theorem implIsServer_law (P A Z Y Q : Option Addr) (g cg n c m cm p cp q cq : Nat) (D : SvD) (w : World) (h : SvR w P A Z Y Q g n c m p cp q cq D) :
    Calls Tryz.prog 13 #[.agg #[.slice P g cg, .slice A n c, .slice Z m cm, .slice Y p cp, .int .i64 D.cost.a, .int .i64 D.cost.b, .int .i64 D.cost.c, .int .i64 D.cost.d, .int .i64 D.bud.a, .int .i64 D.bud.b, .int .i64 D.bud.c, .int .i64 D.bud.d, .int .i64 D.floor, .slice Q q cq]] w fun e w' => e = .returned (.bool (svB D)) ∧ Below w.heap.size w w' := IsServer_any P A Z Y Q g cg n c m cm p cp q cq D w h.hcp h.hcq h.sur h.plan h.asked

set_option maxRecDepth 100000 in
set_option maxHeartbeats 2000000 in
theorem implAnsweredLoss_law (P A Z Y Q : Option Addr) (g cg n c m cm p cp q cq : Nat) (D : SvD) (w : World) (h : SvR w P A Z Y Q g n c m p cp q cq D) :
    Calls Tryz.prog 16 #[.agg #[.slice P g cg, .slice A n c, .slice Z m cm, .slice Y p cp, .int .i64 D.cost.a, .int .i64 D.cost.b, .int .i64 D.cost.c, .int .i64 D.cost.d, .int .i64 D.bud.a, .int .i64 D.bud.b, .int .i64 D.bud.c, .int .i64 D.bud.d, .int .i64 D.floor, .slice Q q cq]] w fun e w' => e = losE (ansO D) ∧ Below w.heap.size w w' := by
  obtain ⟨b0, xs, xr⟩ := box_two w #[.slice P g cg, .slice A n c, .slice Z m cm, .slice Y p cp, .int .i64 D.cost.a, .int .i64 D.cost.b, .int .i64 D.cost.c, .int .i64 D.cost.d, .int .i64 D.bud.a, .int .i64 D.bud.b, .int .i64 D.bud.c, .int .i64 D.bud.d, .int .i64 D.floor, .slice Q q cq] #[.int .i64 0, .int .i64 0, .int .i64 0, .int .i64 0] 44 42
  have Xs := Lib.hid xs
  have Xr := Lib.hid xr
  have HB := Lib.hid b0
  have HV := Lib.hid (h.below b0)
  have hqb := h.asked.bd
  have HQL := Lib.hid h.asked.len
  clear b0 h xs xr
  go_enter Tryz.func16, Tryz.ntmps16
  have ls := lt_of_block Xs.out
  have cs0 := box_cell Xs.out 0 _ rfl
  have cs1 := box_cell Xs.out 1 _ rfl
  have cs2 := box_cell Xs.out 2 _ rfl
  have cs3 := box_cell Xs.out 3 _ rfl
  have cs4 := box_cell Xs.out 4 _ rfl
  have cs5 := box_cell Xs.out 5 _ rfl
  have cs6 := box_cell Xs.out 6 _ rfl
  have cs7 := box_cell Xs.out 7 _ rfl
  have cs8 := box_cell Xs.out 8 _ rfl
  have cs9 := box_cell Xs.out 9 _ rfl
  have cs10 := box_cell Xs.out 10 _ rfl
  have cs11 := box_cell Xs.out 11 _ rfl
  have cs12 := box_cell Xs.out 12 _ rfl
  have cs13 := box_cell Xs.out 13 _ rfl
  go_wp2_with fail
  clear ls cs0 cs1 cs2 cs3 cs4 cs5 cs6 cs7 cs8 cs9 cs10 cs11 cs12 cs13
  generalize (w.alloc (.cells #[.slice P g cg, .slice A n c, .slice Z m cm, .slice Y p cp, .int .i64 D.cost.a, .int .i64 D.cost.b, .int .i64 D.cost.c, .int .i64 D.cost.d, .int .i64 D.bud.a, .int .i64 D.bud.b, .int .i64 D.bud.c, .int .i64 D.bud.d, .int .i64 D.floor, .slice Q q cq] 44)).alloc (.cells #[.int .i64 0, .int .i64 0, .int .i64 0, .int .i64 0] 42) = w0 at *
  refine (IsServer_any P A Z Y Q g cg n c m cm p cp q cq D _ HV.out.hcp HV.out.hcq HV.out.sur HV.out.plan HV.out.asked).mono ?_
  rintro e w1 ⟨rfl, b1⟩
  replace Xs := Lib.hid (box_below Xs.out b1)
  replace Xr := Lib.hid (box_below Xr.out b1)
  replace HB := Lib.hid (HB.out.trans (b1.mono HB.out.size))
  replace HV := Lib.hid (HV.out.below b1)
  clear b1
  cases hs : svB D
  · have R := Lib.hid (ansO_no hs)
    clear hs
    have s1 := HB.out.size
    have lr := lt_of_block Xr.out
    have cr0 := box_cell Xr.out 0 _ rfl
    have cr1 := box_cell Xr.out 1 _ rfl
    have cr2 := box_cell Xr.out 2 _ rfl
    have cr3 := box_cell Xr.out 3 _ rfl
    have fr0 := box_free Xr.out 0
    have fr1 := box_free Xr.out 1
    have fr2 := box_free Xr.out 2
    have fr3 := box_free Xr.out 3
    have y4 := store_four Xr.out (.int .i64 0) (.int .i64 0) (.int .i64 0) (.int .i64 0)
    have e0 := box_cell y4 0 _ rfl
    have e1 := box_cell y4 1 _ rfl
    have e2 := box_cell y4 2 _ rfl
    have e3 := box_cell y4 3 _ rfl
    clear y4 Xs Xr HV
    go_wp2
    exact bodyPost_ret (v := .tuple #[.agg #[.int .i64 0, .int .i64 0, .int .i64 0, .int .i64 0], .bool false]) (by simp [results, Tryz.results16, go_sem, e0, e1, e2, e3]) rfl ⟨by rw [R.out]; rfl, below_four HB.out (by omega)⟩
  have HS := Lib.hid hs
  clear hs
  have HA := Lib.hid (ansO_yes HS.out HQL.out)
  have ls := lt_of_block Xs.out
  have cs0 := box_cell Xs.out 0 _ rfl
  have cs1 := box_cell Xs.out 1 _ rfl
  have cs2 := box_cell Xs.out 2 _ rfl
  have cs3 := box_cell Xs.out 3 _ rfl
  have cs4 := box_cell Xs.out 4 _ rfl
  have cs5 := box_cell Xs.out 5 _ rfl
  have cs6 := box_cell Xs.out 6 _ rfl
  have cs7 := box_cell Xs.out 7 _ rfl
  have cs8 := box_cell Xs.out 8 _ rfl
  have cs9 := box_cell Xs.out 9 _ rfl
  have cs10 := box_cell Xs.out 10 _ rfl
  have cs11 := box_cell Xs.out 11 _ rfl
  have cs12 := box_cell Xs.out 12 _ rfl
  have cs13 := box_cell Xs.out 13 _ rfl
  go_wp2_with fail
  clear ls cs0 cs1 cs2 cs3 cs4 cs5 cs6 cs7 cs8 cs9 cs10 cs11 cs12 cs13
  cases ho : ansO D with
  | none =>
    have HO := Lib.hid (HA.out.trans ho)
    have HAN := Lib.hid ho
    clear ho HA
    refine (costOf_any D.cost q none _ (by omega) (sv_los HS.out).1 HO.out).mono ?_
    rintro e w2 ⟨he, b2⟩
    obtain rfl : e = .returned (.tuple #[.agg #[.int .i64 0, .int .i64 0, .int .i64 0, .int .i64 0], .bool false]) := he
    replace Xs := Lib.hid (box_below Xs.out b2)
    replace Xr := Lib.hid (box_below Xr.out b2)
    replace HB := Lib.hid (HB.out.trans (b2.mono HB.out.size))
    replace HV := Lib.hid (HV.out.below b2)
    clear b2
    have s1 := HB.out.size
    have lr := lt_of_block Xr.out
    have cr0 := box_cell Xr.out 0 _ rfl
    have cr1 := box_cell Xr.out 1 _ rfl
    have cr2 := box_cell Xr.out 2 _ rfl
    have cr3 := box_cell Xr.out 3 _ rfl
    have fr0 := box_free Xr.out 0
    have fr1 := box_free Xr.out 1
    have fr2 := box_free Xr.out 2
    have fr3 := box_free Xr.out 3
    have y4 := store_four Xr.out (.int .i64 0) (.int .i64 0) (.int .i64 0) (.int .i64 0)
    have e0 := box_cell y4 0 _ rfl
    have e1 := box_cell y4 1 _ rfl
    have e2 := box_cell y4 2 _ rfl
    have e3 := box_cell y4 3 _ rfl
    clear y4 Xs Xr HV
    go_wp2
    exact bodyPost_ret (v := .tuple #[.agg #[.int .i64 0, .int .i64 0, .int .i64 0, .int .i64 0], .bool false]) (by simp [results, Tryz.results16, go_sem, e0, e1, e2, e3]) rfl ⟨by rw [HAN.out]; rfl, below_four HB.out (by omega)⟩
  | some z =>
    have HO := Lib.hid (HA.out.trans ho)
    have HAN := Lib.hid ho
    clear ho HA
    refine (costOf_any D.cost q (some z) _ (by omega) (sv_los HS.out).1 HO.out).mono ?_
    rintro e w2 ⟨he, b2⟩
    obtain rfl : e = .returned (.tuple #[.agg #[.int .i64 z.a, .int .i64 z.b, .int .i64 z.c, .int .i64 z.d], .bool true]) := he
    replace Xs := Lib.hid (box_below Xs.out b2)
    replace Xr := Lib.hid (box_below Xr.out b2)
    replace HB := Lib.hid (HB.out.trans (b2.mono HB.out.size))
    replace HV := Lib.hid (HV.out.below b2)
    clear b2
    have s1 := HB.out.size
    have lr := lt_of_block Xr.out
    have cr0 := box_cell Xr.out 0 _ rfl
    have cr1 := box_cell Xr.out 1 _ rfl
    have cr2 := box_cell Xr.out 2 _ rfl
    have cr3 := box_cell Xr.out 3 _ rfl
    have fr0 := box_free Xr.out 0
    have fr1 := box_free Xr.out 1
    have fr2 := box_free Xr.out 2
    have fr3 := box_free Xr.out 3
    have y4 := store_four Xr.out (.int .i64 z.a) (.int .i64 z.b) (.int .i64 z.c) (.int .i64 z.d)
    have e0 := box_cell y4 0 _ rfl
    have e1 := box_cell y4 1 _ rfl
    have e2 := box_cell y4 2 _ rfl
    have e3 := box_cell y4 3 _ rfl
    clear y4 Xs Xr HV
    go_wp2
    exact bodyPost_ret (v := .tuple #[.agg #[.int .i64 z.a, .int .i64 z.b, .int .i64 z.c, .int .i64 z.d], .bool true]) (by simp [results, Tryz.results16, go_sem, e0, e1, e2, e3]) rfl ⟨by rw [HAN.out]; rfl, below_four HB.out (by omega)⟩

set_option maxRecDepth 100000 in
set_option maxHeartbeats 2000000 in
theorem specAnsweredLoss_law (P A Z Y Q : Option Addr) (g cg n c m cm p cp q cq : Nat) (D : SvD) (w : World) (h : SvR w P A Z Y Q g n c m p cp q cq D) :
    Calls Tryz.prog 15 #[.agg #[.slice P g cg, .slice A n c, .slice Z m cm, .slice Y p cp, .int .i64 D.cost.a, .int .i64 D.cost.b, .int .i64 D.cost.c, .int .i64 D.cost.d, .int .i64 D.bud.a, .int .i64 D.bud.b, .int .i64 D.bud.c, .int .i64 D.bud.d, .int .i64 D.floor, .slice Q q cq]] w fun e w' => e = losE (ansO D) ∧ Below w.heap.size w w' := by
  obtain ⟨b0, xs, xr⟩ := box_two w #[.slice P g cg, .slice A n c, .slice Z m cm, .slice Y p cp, .int .i64 D.cost.a, .int .i64 D.cost.b, .int .i64 D.cost.c, .int .i64 D.cost.d, .int .i64 D.bud.a, .int .i64 D.bud.b, .int .i64 D.bud.c, .int .i64 D.bud.d, .int .i64 D.floor, .slice Q q cq] #[.int .i64 0, .int .i64 0, .int .i64 0, .int .i64 0] 44 42
  have Xs := Lib.hid xs
  have Xr := Lib.hid xr
  have HB := Lib.hid b0
  have HV := Lib.hid (h.below b0)
  have hqb := h.asked.bd
  have HQL := Lib.hid h.asked.len
  clear b0 h xs xr
  go_enter Tryz.func15, Tryz.ntmps15
  have ls := lt_of_block Xs.out
  have cs0 := box_cell Xs.out 0 _ rfl
  have cs1 := box_cell Xs.out 1 _ rfl
  have cs2 := box_cell Xs.out 2 _ rfl
  have cs3 := box_cell Xs.out 3 _ rfl
  have cs4 := box_cell Xs.out 4 _ rfl
  have cs5 := box_cell Xs.out 5 _ rfl
  have cs6 := box_cell Xs.out 6 _ rfl
  have cs7 := box_cell Xs.out 7 _ rfl
  have cs8 := box_cell Xs.out 8 _ rfl
  have cs9 := box_cell Xs.out 9 _ rfl
  have cs10 := box_cell Xs.out 10 _ rfl
  have cs11 := box_cell Xs.out 11 _ rfl
  have cs12 := box_cell Xs.out 12 _ rfl
  have cs13 := box_cell Xs.out 13 _ rfl
  go_wp2_with fail
  clear ls cs0 cs1 cs2 cs3 cs4 cs5 cs6 cs7 cs8 cs9 cs10 cs11 cs12 cs13
  generalize (w.alloc (.cells #[.slice P g cg, .slice A n c, .slice Z m cm, .slice Y p cp, .int .i64 D.cost.a, .int .i64 D.cost.b, .int .i64 D.cost.c, .int .i64 D.cost.d, .int .i64 D.bud.a, .int .i64 D.bud.b, .int .i64 D.bud.c, .int .i64 D.bud.d, .int .i64 D.floor, .slice Q q cq] 44)).alloc (.cells #[.int .i64 0, .int .i64 0, .int .i64 0, .int .i64 0] 42) = w0 at *
  refine (jGood_any P A Z Y Q g cg n c m cm p cp q cq D _ HV.out.hcp HV.out.hcq HV.out.sur HV.out.plan HV.out.asked).mono ?_
  rintro e w1 ⟨rfl, b1⟩
  replace Xs := Lib.hid (box_below Xs.out b1)
  replace Xr := Lib.hid (box_below Xr.out b1)
  replace HB := Lib.hid (HB.out.trans (b1.mono HB.out.size))
  replace HV := Lib.hid (HV.out.below b1)
  clear b1
  cases hs : svB D
  · have R := Lib.hid (ansO_no hs)
    clear hs
    have s1 := HB.out.size
    have lr := lt_of_block Xr.out
    have cr0 := box_cell Xr.out 0 _ rfl
    have cr1 := box_cell Xr.out 1 _ rfl
    have cr2 := box_cell Xr.out 2 _ rfl
    have cr3 := box_cell Xr.out 3 _ rfl
    have fr0 := box_free Xr.out 0
    have fr1 := box_free Xr.out 1
    have fr2 := box_free Xr.out 2
    have fr3 := box_free Xr.out 3
    have y4 := store_four Xr.out (.int .i64 0) (.int .i64 0) (.int .i64 0) (.int .i64 0)
    have e0 := box_cell y4 0 _ rfl
    have e1 := box_cell y4 1 _ rfl
    have e2 := box_cell y4 2 _ rfl
    have e3 := box_cell y4 3 _ rfl
    clear y4 Xs Xr HV
    go_wp2
    exact bodyPost_ret (v := .tuple #[.agg #[.int .i64 0, .int .i64 0, .int .i64 0, .int .i64 0], .bool false]) (by simp [results, Tryz.results15, go_sem, e0, e1, e2, e3]) rfl ⟨by rw [R.out]; rfl, below_four HB.out (by omega)⟩
  have HS := Lib.hid hs
  clear hs
  have HA := Lib.hid (ansO_yes HS.out HQL.out)
  have ls := lt_of_block Xs.out
  have cs0 := box_cell Xs.out 0 _ rfl
  have cs1 := box_cell Xs.out 1 _ rfl
  have cs2 := box_cell Xs.out 2 _ rfl
  have cs3 := box_cell Xs.out 3 _ rfl
  have cs4 := box_cell Xs.out 4 _ rfl
  have cs5 := box_cell Xs.out 5 _ rfl
  have cs6 := box_cell Xs.out 6 _ rfl
  have cs7 := box_cell Xs.out 7 _ rfl
  have cs8 := box_cell Xs.out 8 _ rfl
  have cs9 := box_cell Xs.out 9 _ rfl
  have cs10 := box_cell Xs.out 10 _ rfl
  have cs11 := box_cell Xs.out 11 _ rfl
  have cs12 := box_cell Xs.out 12 _ rfl
  have cs13 := box_cell Xs.out 13 _ rfl
  go_wp2_with fail
  clear ls cs0 cs1 cs2 cs3 cs4 cs5 cs6 cs7 cs8 cs9 cs10 cs11 cs12 cs13
  cases ho : ansO D with
  | none =>
    have HO := Lib.hid (HA.out.trans ho)
    have HAN := Lib.hid ho
    clear ho HA
    refine (jSpent_any P A Z Y Q g cg n c m cm p cp q cq D q none _ (by omega) (sv_los HS.out).1 HO.out).mono ?_
    rintro e w2 ⟨he, b2⟩
    obtain rfl : e = .returned (.tuple #[.agg #[.int .i64 0, .int .i64 0, .int .i64 0, .int .i64 0], .bool false]) := he
    replace Xs := Lib.hid (box_below Xs.out b2)
    replace Xr := Lib.hid (box_below Xr.out b2)
    replace HB := Lib.hid (HB.out.trans (b2.mono HB.out.size))
    replace HV := Lib.hid (HV.out.below b2)
    clear b2
    have s1 := HB.out.size
    have lr := lt_of_block Xr.out
    have cr0 := box_cell Xr.out 0 _ rfl
    have cr1 := box_cell Xr.out 1 _ rfl
    have cr2 := box_cell Xr.out 2 _ rfl
    have cr3 := box_cell Xr.out 3 _ rfl
    have fr0 := box_free Xr.out 0
    have fr1 := box_free Xr.out 1
    have fr2 := box_free Xr.out 2
    have fr3 := box_free Xr.out 3
    have y4 := store_four Xr.out (.int .i64 0) (.int .i64 0) (.int .i64 0) (.int .i64 0)
    have e0 := box_cell y4 0 _ rfl
    have e1 := box_cell y4 1 _ rfl
    have e2 := box_cell y4 2 _ rfl
    have e3 := box_cell y4 3 _ rfl
    clear y4 Xs Xr HV
    go_wp2
    exact bodyPost_ret (v := .tuple #[.agg #[.int .i64 0, .int .i64 0, .int .i64 0, .int .i64 0], .bool false]) (by simp [results, Tryz.results15, go_sem, e0, e1, e2, e3]) rfl ⟨by rw [HAN.out]; rfl, below_four HB.out (by omega)⟩
  | some z =>
    have HO := Lib.hid (HA.out.trans ho)
    have HAN := Lib.hid ho
    clear ho HA
    refine (jSpent_any P A Z Y Q g cg n c m cm p cp q cq D q (some z) _ (by omega) (sv_los HS.out).1 HO.out).mono ?_
    rintro e w2 ⟨he, b2⟩
    obtain rfl : e = .returned (.tuple #[.agg #[.int .i64 z.a, .int .i64 z.b, .int .i64 z.c, .int .i64 z.d], .bool true]) := he
    replace Xs := Lib.hid (box_below Xs.out b2)
    replace Xr := Lib.hid (box_below Xr.out b2)
    replace HB := Lib.hid (HB.out.trans (b2.mono HB.out.size))
    replace HV := Lib.hid (HV.out.below b2)
    clear b2
    have s1 := HB.out.size
    have lr := lt_of_block Xr.out
    have cr0 := box_cell Xr.out 0 _ rfl
    have cr1 := box_cell Xr.out 1 _ rfl
    have cr2 := box_cell Xr.out 2 _ rfl
    have cr3 := box_cell Xr.out 3 _ rfl
    have fr0 := box_free Xr.out 0
    have fr1 := box_free Xr.out 1
    have fr2 := box_free Xr.out 2
    have fr3 := box_free Xr.out 3
    have y4 := store_four Xr.out (.int .i64 z.a) (.int .i64 z.b) (.int .i64 z.c) (.int .i64 z.d)
    have e0 := box_cell y4 0 _ rfl
    have e1 := box_cell y4 1 _ rfl
    have e2 := box_cell y4 2 _ rfl
    have e3 := box_cell y4 3 _ rfl
    clear y4 Xs Xr HV
    go_wp2
    exact bodyPost_ret (v := .tuple #[.agg #[.int .i64 z.a, .int .i64 z.b, .int .i64 z.c, .int .i64 z.d], .bool true]) (by simp [results, Tryz.results15, go_sem, e0, e1, e2, e3]) rfl ⟨by rw [HAN.out]; rfl, below_four HB.out (by omega)⟩
end Go.Proofs.YtfanpbfmnckmnaaGreat
