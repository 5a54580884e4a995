/- Several small texts in one: PubA, PubB. -/
import Derived.Test.YtfanpbfmnckmnaaGreatYk
import Derived.Test.YtfanpbfmnckmnaaGreatClass
namespace Go.Proofs.YtfanpbfmnckmnaaGreat

section
open Go.RowKit

section
variable {D : SvD} {t : TabD}
theorem svB_parts (h : svB D = true) : geoB D.par = true ∧ schB D.vs = true ∧ surB D.par D.vs D.rs = true ∧ losB D.cost = true ∧ losB D.bud = true ∧ allTo (planOk D) D.plan.length = true ∧ allTo (askOk D) D.asked.length = true := by
  unfold svB at h
  simp only [Bool.and_eq_true, decide_eq_true_eq] at h
  obtain ⟨h1, h2, h3, _, h5, h6, _, h8, h9⟩ := h
  exact ⟨h1, h2, h3, h5, h6, h8, h9⟩
theorem sv_ok (h : svB D = true) : SurOk D := ⟨(svB_parts h).1, (svB_parts h).2.1, (svB_parts h).2.2.1⟩
theorem sv_los (h : svB D = true) : LosOk D.cost ∧ LosOk D.bud := ⟨losB_ok (svB_parts h).2.2.2.1, losB_ok (svB_parts h).2.2.2.2.1⟩
theorem sv_asks (h : svB D = true) {q : Nat} (hq : D.asked.length = q) (j : Nat) (hj : j < q) : tabB D.par D.vs (tX D.asked j) = true := code0_tab (askOk_code (allTo_of (svB_parts h).2.2.2.2.2.2 j (by omega)))
/-- The answers of the public functions. -/
def ansO (D : SvD) : Option LosD := if svB D = true then costO D.cost D.asked.length else none
def gapB (D : SvD) (t : TabD) : Bool := svB D && tabB D.par D.vs t
def gapL (D : SvD) (t : TabD) : Int := if gapB D t = true then gapV D D.asked t else 0
def qcV (D : SvD) (t : TabD) : Int := if svB D = true then codeV D D.asked t else 0
theorem ansO_no (h : svB D = false) : ansO D = none := by unfold ansO; rw [if_neg (by rw [h]; simp)]
theorem ansO_yes (h : svB D = true) {q : Nat} (hq : D.asked.length = q) : costO D.cost q = ansO D := by unfold ansO; rw [if_pos h, hq]
theorem gapB_1 (h : svB D = false) : gapB D t = false := by unfold gapB; rw [h]; rfl
theorem gapB_2 (h : tabB D.par D.vs t = false) : gapB D t = false := by unfold gapB; rw [h]; simp
theorem gapB_3 (h1 : svB D = true) (h : tabB D.par D.vs t = true) : gapB D t = true := by unfold gapB; rw [h, h1]; rfl
theorem gap_no (h : gapB D t = false) : Ending.returned (.tuple #[.int .i64 0, .bool false]) = .returned (.tuple #[.int .i64 (gapL D t), .bool (gapB D t)]) := by unfold gapL; rw [h]; rfl
theorem gap_yes (h : gapB D t = true) : Ending.returned (.tuple #[.int .i64 (gapV D D.asked t), .bool true]) = .returned (.tuple #[.int .i64 (gapL D t), .bool (gapB D t)]) := by unfold gapL; rw [h]; rfl
theorem qc_no (h : svB D = false) : Ending.returned (.tuple #[.int .i64 0, .bool false]) = .returned (.tuple #[.int .i64 (qcV D t), .bool (svB D)]) := by unfold qcV; rw [h]; rfl
theorem qc_yes (h : svB D = true) : Ending.returned (.tuple #[.int .i64 (codeV D D.asked t), .bool true]) = .returned (.tuple #[.int .i64 (qcV D t), .bool (svB D)]) := by unfold qcV; rw [h]; rfl
end

set_option maxRecDepth 100000 in
set_option maxHeartbeats 2000000 in
theorem implLeastGap_law (P A Z Y Q : Option Addr) (g cg n c m cm p cp q cq : Nat) (D : SvD) (V U : Option Addr) (tm td tk te : Nat) (t : TabD) (w : World) (h : SvR w P A Z Y Q g n c m p cp q cq D) (hT : TabR w V tm U tk t) :
    Calls Tryz.prog 21 #[.agg #[.slice P g cg, .slice A n c, .slice Z m cm, .slice Y p cp, .int .i64 D.cost.a, .int .i64 D.cost.b, .int .i64 D.cost.c, .int .i64 D.cost.d, .int .i64 D.bud.a, .int .i64 D.bud.b, .int .i64 D.bud.c, .int .i64 D.bud.d, .int .i64 D.floor, .slice Q q cq], .agg #[.int .i64 t.lv, .slice V tm td, .slice U tk te, .int .i64 t.sum]] w fun e w' => e = .returned (.tuple #[.int .i64 (gapL D t), .bool (gapB D t)]) ∧ Below w.heap.size w w' := by
  obtain ⟨b0, xs, xt⟩ := box_two w #[.slice P g cg, .slice A n c, .slice Z m cm, .slice Y p cp, .int .i64 D.cost.a, .int .i64 D.cost.b, .int .i64 D.cost.c, .int .i64 D.cost.d, .int .i64 D.bud.a, .int .i64 D.bud.b, .int .i64 D.bud.c, .int .i64 D.bud.d, .int .i64 D.floor, .slice Q q cq] #[.int .i64 t.lv, .slice V tm td, .slice U tk te, .int .i64 t.sum] 44 56
  have Xs := Lib.hid xs
  have Xt := Lib.hid xt
  have HB := Lib.hid b0
  have HV := Lib.hid (h.below b0)
  have HT := Lib.hid (hT.below b0)
  clear b0 xs xt h hT
  go_enter Tryz.func21, Tryz.ntmps21
  have ls := lt_of_block Xs.out
  have cs0 := box_cell Xs.out 0 _ rfl
  have cs1 := box_cell Xs.out 1 _ rfl
  have cs2 := box_cell Xs.out 2 _ rfl
  have cs3 := box_cell Xs.out 3 _ rfl
  have cs4 := box_cell Xs.out 4 _ rfl
  have cs5 := box_cell Xs.out 5 _ rfl
  have cs6 := box_cell Xs.out 6 _ rfl
  have cs7 := box_cell Xs.out 7 _ rfl
  have cs8 := box_cell Xs.out 8 _ rfl
  have cs9 := box_cell Xs.out 9 _ rfl
  have cs10 := box_cell Xs.out 10 _ rfl
  have cs11 := box_cell Xs.out 11 _ rfl
  have cs12 := box_cell Xs.out 12 _ rfl
  have cs13 := box_cell Xs.out 13 _ rfl
  go_wp2_with fail
  clear ls cs0 cs1 cs2 cs3 cs4 cs5 cs6 cs7 cs8 cs9 cs10 cs11 cs12 cs13
  generalize (w.alloc (.cells #[.slice P g cg, .slice A n c, .slice Z m cm, .slice Y p cp, .int .i64 D.cost.a, .int .i64 D.cost.b, .int .i64 D.cost.c, .int .i64 D.cost.d, .int .i64 D.bud.a, .int .i64 D.bud.b, .int .i64 D.bud.c, .int .i64 D.bud.d, .int .i64 D.floor, .slice Q q cq] 44)).alloc (.cells #[.int .i64 t.lv, .slice V tm td, .slice U tk te, .int .i64 t.sum] 56) = w0 at *
  refine (IsServer_any P A Z Y Q g cg n c m cm p cp q cq D _ HV.out.hcp HV.out.hcq HV.out.sur HV.out.plan HV.out.asked).mono ?_
  rintro e w1 ⟨rfl, b1⟩
  replace Xs := Lib.hid (box_below Xs.out b1)
  replace Xt := Lib.hid (box_below Xt.out b1)
  replace HB := Lib.hid (HB.out.trans (b1.mono HB.out.size))
  replace HV := Lib.hid (HV.out.below b1)
  replace HT := Lib.hid (HT.out.below b1)
  clear b1
  cases hs : svB D
  · have R := Lib.hid (gap_no (t := t) (gapB_1 hs))
    clear hs
    go_wp2
    go_ret2
    exact ⟨R.out, HB.out⟩
  have HS := Lib.hid hs
  clear hs
  have ls := lt_of_block Xs.out
  have cs0 := box_cell Xs.out 0 _ rfl
  have cs1 := box_cell Xs.out 1 _ rfl
  have lt := lt_of_block Xt.out
  have ct0 := box_cell Xt.out 0 _ rfl
  have ct1 := box_cell Xt.out 1 _ rfl
  have ct2 := box_cell Xt.out 2 _ rfl
  have ct3 := box_cell Xt.out 3 _ rfl
  go_wp2_with fail
  clear ls cs0 cs1 lt ct0 ct1 ct2 ct3
  have hgeo := geoB_of (sv_ok HS.out).g
  rw [HV.out.sur.p.len] at hgeo
  have HGE := Lib.hid hgeo
  clear hgeo
  refine (isTable_any P A V U g cg n c tm td tk te D.par t D.vs _ HGE.out (sv_ok HS.out).s HV.out.sur.p HV.out.sur.s HT.out).mono ?_
  rintro e w2 ⟨rfl, b2⟩
  replace Xs := Lib.hid (box_below Xs.out b2)
  replace Xt := Lib.hid (box_below Xt.out b2)
  replace HB := Lib.hid (HB.out.trans (b2.mono HB.out.size))
  replace HV := Lib.hid (HV.out.below b2)
  replace HT := Lib.hid (HT.out.below b2)
  clear b2
  cases ht : tabB D.par D.vs t
  · have R := Lib.hid (gap_no (t := t) (gapB_2 ht))
    clear ht
    go_wp2
    go_ret2
    exact ⟨R.out, HB.out⟩
  have H1 := Lib.hid ht
  clear ht
  have ls := lt_of_block Xs.out
  have cs0 := box_cell Xs.out 0 _ rfl
  have cs1 := box_cell Xs.out 1 _ rfl
  have cs2 := box_cell Xs.out 2 _ rfl
  have cs3 := box_cell Xs.out 3 _ rfl
  have cs4 := box_cell Xs.out 4 _ rfl
  have cs5 := box_cell Xs.out 5 _ rfl
  have cs6 := box_cell Xs.out 6 _ rfl
  have cs7 := box_cell Xs.out 7 _ rfl
  have cs8 := box_cell Xs.out 8 _ rfl
  have cs9 := box_cell Xs.out 9 _ rfl
  have cs10 := box_cell Xs.out 10 _ rfl
  have cs11 := box_cell Xs.out 11 _ rfl
  have cs12 := box_cell Xs.out 12 _ rfl
  have cs13 := box_cell Xs.out 13 _ rfl
  have lt := lt_of_block Xt.out
  have ct0 := box_cell Xt.out 0 _ rfl
  have ct1 := box_cell Xt.out 1 _ rfl
  have ct2 := box_cell Xt.out 2 _ rfl
  have ct3 := box_cell Xt.out 3 _ rfl
  go_wp2_with fail
  clear ls cs0 cs1 cs2 cs3 cs4 cs5 cs6 cs7 cs8 cs9 cs10 cs11 cs12 cs13 lt ct0 ct1 ct2 ct3
  refine (leastGap_any P A Z Y Q g cg n c m cm p cp q cq D V U tm td tk te t D.asked _ (sv_ok HS.out) H1.out (sv_asks HS.out HV.out.asked.len) HV.out.sur HT.out HV.out.asked).mono ?_
  rintro e w3 ⟨rfl, b3⟩
  replace Xs := Lib.hid (box_below Xs.out b3)
  replace Xt := Lib.hid (box_below Xt.out b3)
  replace HB := Lib.hid (HB.out.trans (b3.mono HB.out.size))
  replace HV := Lib.hid (HV.out.below b3)
  replace HT := Lib.hid (HT.out.below b3)
  clear b3
  have R := Lib.hid (gap_yes (t := t) (gapB_3 HS.out H1.out))
  go_wp2
  go_ret2
  exact ⟨R.out, HB.out⟩

set_option maxRecDepth 100000 in
set_option maxHeartbeats 2000000 in
theorem implQueryCode_law (P A Z Y Q : Option Addr) (g cg n c m cm p cp q cq : Nat) (D : SvD) (V U : Option Addr) (tm td tk te : Nat) (t : TabD) (w : World) (h : SvR w P A Z Y Q g n c m p cp q cq D) (hT : TabR w V tm U tk t) :
    Calls Tryz.prog 24 #[.agg #[.slice P g cg, .slice A n c, .slice Z m cm, .slice Y p cp, .int .i64 D.cost.a, .int .i64 D.cost.b, .int .i64 D.cost.c, .int .i64 D.cost.d, .int .i64 D.bud.a, .int .i64 D.bud.b, .int .i64 D.bud.c, .int .i64 D.bud.d, .int .i64 D.floor, .slice Q q cq], .agg #[.int .i64 t.lv, .slice V tm td, .slice U tk te, .int .i64 t.sum]] w fun e w' => e = .returned (.tuple #[.int .i64 (qcV D t), .bool (svB D)]) ∧ Below w.heap.size w w' := by
  obtain ⟨b0, xs, xt⟩ := box_two w #[.slice P g cg, .slice A n c, .slice Z m cm, .slice Y p cp, .int .i64 D.cost.a, .int .i64 D.cost.b, .int .i64 D.cost.c, .int .i64 D.cost.d, .int .i64 D.bud.a, .int .i64 D.bud.b, .int .i64 D.bud.c, .int .i64 D.bud.d, .int .i64 D.floor, .slice Q q cq] #[.int .i64 t.lv, .slice V tm td, .slice U tk te, .int .i64 t.sum] 44 56
  have Xs := Lib.hid xs
  have Xt := Lib.hid xt
  have HB := Lib.hid b0
  have HV := Lib.hid (h.below b0)
  have HT := Lib.hid (hT.below b0)
  clear b0 xs xt h hT
  go_enter Tryz.func24, Tryz.ntmps24
  have ls := lt_of_block Xs.out
  have cs0 := box_cell Xs.out 0 _ rfl
  have cs1 := box_cell Xs.out 1 _ rfl
  have cs2 := box_cell Xs.out 2 _ rfl
  have cs3 := box_cell Xs.out 3 _ rfl
  have cs4 := box_cell Xs.out 4 _ rfl
  have cs5 := box_cell Xs.out 5 _ rfl
  have cs6 := box_cell Xs.out 6 _ rfl
  have cs7 := box_cell Xs.out 7 _ rfl
  have cs8 := box_cell Xs.out 8 _ rfl
  have cs9 := box_cell Xs.out 9 _ rfl
  have cs10 := box_cell Xs.out 10 _ rfl
  have cs11 := box_cell Xs.out 11 _ rfl
  have cs12 := box_cell Xs.out 12 _ rfl
  have cs13 := box_cell Xs.out 13 _ rfl
  go_wp2_with fail
  clear ls cs0 cs1 cs2 cs3 cs4 cs5 cs6 cs7 cs8 cs9 cs10 cs11 cs12 cs13
  generalize (w.alloc (.cells #[.slice P g cg, .slice A n c, .slice Z m cm, .slice Y p cp, .int .i64 D.cost.a, .int .i64 D.cost.b, .int .i64 D.cost.c, .int .i64 D.cost.d, .int .i64 D.bud.a, .int .i64 D.bud.b, .int .i64 D.bud.c, .int .i64 D.bud.d, .int .i64 D.floor, .slice Q q cq] 44)).alloc (.cells #[.int .i64 t.lv, .slice V tm td, .slice U tk te, .int .i64 t.sum] 56) = w0 at *
  refine (IsServer_any P A Z Y Q g cg n c m cm p cp q cq D _ HV.out.hcp HV.out.hcq HV.out.sur HV.out.plan HV.out.asked).mono ?_
  rintro e w1 ⟨rfl, b1⟩
  replace Xs := Lib.hid (box_below Xs.out b1)
  replace Xt := Lib.hid (box_below Xt.out b1)
  replace HB := Lib.hid (HB.out.trans (b1.mono HB.out.size))
  replace HV := Lib.hid (HV.out.below b1)
  replace HT := Lib.hid (HT.out.below b1)
  clear b1
  cases hs : svB D
  · have R := Lib.hid (qc_no (t := t) hs)
    clear hs
    go_wp2
    go_ret2
    exact ⟨R.out, HB.out⟩
  have HS := Lib.hid hs
  clear hs
  have ls := lt_of_block Xs.out
  have cs0 := box_cell Xs.out 0 _ rfl
  have cs1 := box_cell Xs.out 1 _ rfl
  have cs2 := box_cell Xs.out 2 _ rfl
  have cs3 := box_cell Xs.out 3 _ rfl
  have cs4 := box_cell Xs.out 4 _ rfl
  have cs5 := box_cell Xs.out 5 _ rfl
  have cs6 := box_cell Xs.out 6 _ rfl
  have cs7 := box_cell Xs.out 7 _ rfl
  have cs8 := box_cell Xs.out 8 _ rfl
  have cs9 := box_cell Xs.out 9 _ rfl
  have cs10 := box_cell Xs.out 10 _ rfl
  have cs11 := box_cell Xs.out 11 _ rfl
  have cs12 := box_cell Xs.out 12 _ rfl
  have cs13 := box_cell Xs.out 13 _ rfl
  have lt := lt_of_block Xt.out
  have ct0 := box_cell Xt.out 0 _ rfl
  have ct1 := box_cell Xt.out 1 _ rfl
  have ct2 := box_cell Xt.out 2 _ rfl
  have ct3 := box_cell Xt.out 3 _ rfl
  go_wp2_with fail
  clear ls cs0 cs1 cs2 cs3 cs4 cs5 cs6 cs7 cs8 cs9 cs10 cs11 cs12 cs13 lt ct0 ct1 ct2 ct3
  refine (queryCode_any P A Z Y Q g cg n c m cm p cp q cq D V U tm td tk te t D.asked _ (sv_ok HS.out) (sv_los HS.out).1 (sv_los HS.out).2 (sv_asks HS.out HV.out.asked.len) HV.out.sur HT.out HV.out.plan HV.out.asked).mono ?_
  rintro e w3 ⟨rfl, b3⟩
  replace Xs := Lib.hid (box_below Xs.out b3)
  replace Xt := Lib.hid (box_below Xt.out b3)
  replace HB := Lib.hid (HB.out.trans (b3.mono HB.out.size))
  replace HV := Lib.hid (HV.out.below b3)
  replace HT := Lib.hid (HT.out.below b3)
  clear b3
  have R := Lib.hid (qc_yes (t := t) HS.out)
  go_wp2
  go_ret2
  exact ⟨R.out, HB.out⟩

set_option maxRecDepth 100000 in
set_option maxHeartbeats 2000000 in
theorem specLeastGap_law (P A Z Y Q : Option Addr) (g cg n c m cm p cp q cq : Nat) (D : SvD) (V U : Option Addr) (tm td tk te : Nat) (t : TabD) (w : World) (h : SvR w P A Z Y Q g n c m p cp q cq D) (hT : TabR w V tm U tk t) :
    Calls Tryz.prog 19 #[.agg #[.slice P g cg, .slice A n c, .slice Z m cm, .slice Y p cp, .int .i64 D.cost.a, .int .i64 D.cost.b, .int .i64 D.cost.c, .int .i64 D.cost.d, .int .i64 D.bud.a, .int .i64 D.bud.b, .int .i64 D.bud.c, .int .i64 D.bud.d, .int .i64 D.floor, .slice Q q cq], .agg #[.int .i64 t.lv, .slice V tm td, .slice U tk te, .int .i64 t.sum]] w fun e w' => e = .returned (.tuple #[.int .i64 (gapL D t), .bool (gapB D t)]) ∧ Below w.heap.size w w' := by
  obtain ⟨b0, xs, xt⟩ := box_two w #[.slice P g cg, .slice A n c, .slice Z m cm, .slice Y p cp, .int .i64 D.cost.a, .int .i64 D.cost.b, .int .i64 D.cost.c, .int .i64 D.cost.d, .int .i64 D.bud.a, .int .i64 D.bud.b, .int .i64 D.bud.c, .int .i64 D.bud.d, .int .i64 D.floor, .slice Q q cq] #[.int .i64 t.lv, .slice V tm td, .slice U tk te, .int .i64 t.sum] 44 56
  have Xs := Lib.hid xs
  have Xt := Lib.hid xt
  have HB := Lib.hid b0
  have HV := Lib.hid (h.below b0)
  have HT := Lib.hid (hT.below b0)
  clear b0 xs xt h hT
  go_enter Tryz.func19, Tryz.ntmps19
  have ls := lt_of_block Xs.out
  have cs0 := box_cell Xs.out 0 _ rfl
  have cs1 := box_cell Xs.out 1 _ rfl
  have cs2 := box_cell Xs.out 2 _ rfl
  have cs3 := box_cell Xs.out 3 _ rfl
  have cs4 := box_cell Xs.out 4 _ rfl
  have cs5 := box_cell Xs.out 5 _ rfl
  have cs6 := box_cell Xs.out 6 _ rfl
  have cs7 := box_cell Xs.out 7 _ rfl
  have cs8 := box_cell Xs.out 8 _ rfl
  have cs9 := box_cell Xs.out 9 _ rfl
  have cs10 := box_cell Xs.out 10 _ rfl
  have cs11 := box_cell Xs.out 11 _ rfl
  have cs12 := box_cell Xs.out 12 _ rfl
  have cs13 := box_cell Xs.out 13 _ rfl
  go_wp2_with fail
  clear ls cs0 cs1 cs2 cs3 cs4 cs5 cs6 cs7 cs8 cs9 cs10 cs11 cs12 cs13
  generalize (w.alloc (.cells #[.slice P g cg, .slice A n c, .slice Z m cm, .slice Y p cp, .int .i64 D.cost.a, .int .i64 D.cost.b, .int .i64 D.cost.c, .int .i64 D.cost.d, .int .i64 D.bud.a, .int .i64 D.bud.b, .int .i64 D.bud.c, .int .i64 D.bud.d, .int .i64 D.floor, .slice Q q cq] 44)).alloc (.cells #[.int .i64 t.lv, .slice V tm td, .slice U tk te, .int .i64 t.sum] 56) = w0 at *
  refine (jGood_any P A Z Y Q g cg n c m cm p cp q cq D _ HV.out.hcp HV.out.hcq HV.out.sur HV.out.plan HV.out.asked).mono ?_
  rintro e w1 ⟨rfl, b1⟩
  replace Xs := Lib.hid (box_below Xs.out b1)
  replace Xt := Lib.hid (box_below Xt.out b1)
  replace HB := Lib.hid (HB.out.trans (b1.mono HB.out.size))
  replace HV := Lib.hid (HV.out.below b1)
  replace HT := Lib.hid (HT.out.below b1)
  clear b1
  cases hs : svB D
  · have R := Lib.hid (gap_no (t := t) (gapB_1 hs))
    clear hs
    go_wp2
    go_ret2
    exact ⟨R.out, HB.out⟩
  have HS := Lib.hid hs
  clear hs
  have ls := lt_of_block Xs.out
  have cs0 := box_cell Xs.out 0 _ rfl
  have cs1 := box_cell Xs.out 1 _ rfl
  have lt := lt_of_block Xt.out
  have ct0 := box_cell Xt.out 0 _ rfl
  have ct1 := box_cell Xt.out 1 _ rfl
  have ct2 := box_cell Xt.out 2 _ rfl
  have ct3 := box_cell Xt.out 3 _ rfl
  go_wp2_with fail
  clear ls cs0 cs1 lt ct0 ct1 ct2 ct3
  refine (uGood_any P A V U g cg n c tm td tk te D.par t D.vs _ HV.out.sur.p HV.out.sur.s HT.out).mono ?_
  rintro e w2 ⟨rfl, b2⟩
  rw [allB_eq (sv_ok HS.out)]
  replace Xs := Lib.hid (box_below Xs.out b2)
  replace Xt := Lib.hid (box_below Xt.out b2)
  replace HB := Lib.hid (HB.out.trans (b2.mono HB.out.size))
  replace HV := Lib.hid (HV.out.below b2)
  replace HT := Lib.hid (HT.out.below b2)
  clear b2
  cases ht : tabB D.par D.vs t
  · have R := Lib.hid (gap_no (t := t) (gapB_2 ht))
    clear ht
    go_wp2
    go_ret2
    exact ⟨R.out, HB.out⟩
  have H1 := Lib.hid ht
  clear ht
  have ls := lt_of_block Xs.out
  have cs0 := box_cell Xs.out 0 _ rfl
  have cs1 := box_cell Xs.out 1 _ rfl
  have cs2 := box_cell Xs.out 2 _ rfl
  have cs3 := box_cell Xs.out 3 _ rfl
  have cs4 := box_cell Xs.out 4 _ rfl
  have cs5 := box_cell Xs.out 5 _ rfl
  have cs6 := box_cell Xs.out 6 _ rfl
  have cs7 := box_cell Xs.out 7 _ rfl
  have cs8 := box_cell Xs.out 8 _ rfl
  have cs9 := box_cell Xs.out 9 _ rfl
  have cs10 := box_cell Xs.out 10 _ rfl
  have cs11 := box_cell Xs.out 11 _ rfl
  have cs12 := box_cell Xs.out 12 _ rfl
  have cs13 := box_cell Xs.out 13 _ rfl
  have lt := lt_of_block Xt.out
  have ct0 := box_cell Xt.out 0 _ rfl
  have ct1 := box_cell Xt.out 1 _ rfl
  have ct2 := box_cell Xt.out 2 _ rfl
  have ct3 := box_cell Xt.out 3 _ rfl
  go_wp2_with fail
  clear ls cs0 cs1 cs2 cs3 cs4 cs5 cs6 cs7 cs8 cs9 cs10 cs11 cs12 cs13 lt ct0 ct1 ct2 ct3
  refine (jGap_any P A Z Y Q g cg n c m cm p cp q cq D V U Q tm td tk te q cq t D.asked _ (sv_ok HS.out) H1.out (sv_asks HS.out HV.out.asked.len) HV.out.sur HT.out HV.out.asked).mono ?_
  rintro e w3 ⟨rfl, b3⟩
  replace Xs := Lib.hid (box_below Xs.out b3)
  replace Xt := Lib.hid (box_below Xt.out b3)
  replace HB := Lib.hid (HB.out.trans (b3.mono HB.out.size))
  replace HV := Lib.hid (HV.out.below b3)
  replace HT := Lib.hid (HT.out.below b3)
  clear b3
  have R := Lib.hid (gap_yes (t := t) (gapB_3 HS.out H1.out))
  go_wp2
  go_ret2
  exact ⟨R.out, HB.out⟩

set_option maxRecDepth 100000 in
set_option maxHeartbeats 2000000 in
theorem specQueryCode_law (P A Z Y Q : Option Addr) (g cg n c m cm p cp q cq : Nat) (D : SvD) (V U : Option Addr) (tm td tk te : Nat) (t : TabD) (w : World) (h : SvR w P A Z Y Q g n c m p cp q cq D) (hT : TabR w V tm U tk t) :
    Calls Tryz.prog 23 #[.agg #[.slice P g cg, .slice A n c, .slice Z m cm, .slice Y p cp, .int .i64 D.cost.a, .int .i64 D.cost.b, .int .i64 D.cost.c, .int .i64 D.cost.d, .int .i64 D.bud.a, .int .i64 D.bud.b, .int .i64 D.bud.c, .int .i64 D.bud.d, .int .i64 D.floor, .slice Q q cq], .agg #[.int .i64 t.lv, .slice V tm td, .slice U tk te, .int .i64 t.sum]] w fun e w' => e = .returned (.tuple #[.int .i64 (qcV D t), .bool (svB D)]) ∧ Below w.heap.size w w' := by
  obtain ⟨b0, xs, xt⟩ := box_two w #[.slice P g cg, .slice A n c, .slice Z m cm, .slice Y p cp, .int .i64 D.cost.a, .int .i64 D.cost.b, .int .i64 D.cost.c, .int .i64 D.cost.d, .int .i64 D.bud.a, .int .i64 D.bud.b, .int .i64 D.bud.c, .int .i64 D.bud.d, .int .i64 D.floor, .slice Q q cq] #[.int .i64 t.lv, .slice V tm td, .slice U tk te, .int .i64 t.sum] 44 56
  have Xs := Lib.hid xs
  have Xt := Lib.hid xt
  have HB := Lib.hid b0
  have HV := Lib.hid (h.below b0)
  have HT := Lib.hid (hT.below b0)
  clear b0 xs xt h hT
  go_enter Tryz.func23, Tryz.ntmps23
  have ls := lt_of_block Xs.out
  have cs0 := box_cell Xs.out 0 _ rfl
  have cs1 := box_cell Xs.out 1 _ rfl
  have cs2 := box_cell Xs.out 2 _ rfl
  have cs3 := box_cell Xs.out 3 _ rfl
  have cs4 := box_cell Xs.out 4 _ rfl
  have cs5 := box_cell Xs.out 5 _ rfl
  have cs6 := box_cell Xs.out 6 _ rfl
  have cs7 := box_cell Xs.out 7 _ rfl
  have cs8 := box_cell Xs.out 8 _ rfl
  have cs9 := box_cell Xs.out 9 _ rfl
  have cs10 := box_cell Xs.out 10 _ rfl
  have cs11 := box_cell Xs.out 11 _ rfl
  have cs12 := box_cell Xs.out 12 _ rfl
  have cs13 := box_cell Xs.out 13 _ rfl
  go_wp2_with fail
  clear ls cs0 cs1 cs2 cs3 cs4 cs5 cs6 cs7 cs8 cs9 cs10 cs11 cs12 cs13
  generalize (w.alloc (.cells #[.slice P g cg, .slice A n c, .slice Z m cm, .slice Y p cp, .int .i64 D.cost.a, .int .i64 D.cost.b, .int .i64 D.cost.c, .int .i64 D.cost.d, .int .i64 D.bud.a, .int .i64 D.bud.b, .int .i64 D.bud.c, .int .i64 D.bud.d, .int .i64 D.floor, .slice Q q cq] 44)).alloc (.cells #[.int .i64 t.lv, .slice V tm td, .slice U tk te, .int .i64 t.sum] 56) = w0 at *
  refine (jGood_any P A Z Y Q g cg n c m cm p cp q cq D _ HV.out.hcp HV.out.hcq HV.out.sur HV.out.plan HV.out.asked).mono ?_
  rintro e w1 ⟨rfl, b1⟩
  replace Xs := Lib.hid (box_below Xs.out b1)
  replace Xt := Lib.hid (box_below Xt.out b1)
  replace HB := Lib.hid (HB.out.trans (b1.mono HB.out.size))
  replace HV := Lib.hid (HV.out.below b1)
  replace HT := Lib.hid (HT.out.below b1)
  clear b1
  cases hs : svB D
  · have R := Lib.hid (qc_no (t := t) hs)
    clear hs
    go_wp2
    go_ret2
    exact ⟨R.out, HB.out⟩
  have HS := Lib.hid hs
  clear hs
  have ls := lt_of_block Xs.out
  have cs0 := box_cell Xs.out 0 _ rfl
  have cs1 := box_cell Xs.out 1 _ rfl
  have cs2 := box_cell Xs.out 2 _ rfl
  have cs3 := box_cell Xs.out 3 _ rfl
  have cs4 := box_cell Xs.out 4 _ rfl
  have cs5 := box_cell Xs.out 5 _ rfl
  have cs6 := box_cell Xs.out 6 _ rfl
  have cs7 := box_cell Xs.out 7 _ rfl
  have cs8 := box_cell Xs.out 8 _ rfl
  have cs9 := box_cell Xs.out 9 _ rfl
  have cs10 := box_cell Xs.out 10 _ rfl
  have cs11 := box_cell Xs.out 11 _ rfl
  have cs12 := box_cell Xs.out 12 _ rfl
  have cs13 := box_cell Xs.out 13 _ rfl
  have lt := lt_of_block Xt.out
  have ct0 := box_cell Xt.out 0 _ rfl
  have ct1 := box_cell Xt.out 1 _ rfl
  have ct2 := box_cell Xt.out 2 _ rfl
  have ct3 := box_cell Xt.out 3 _ rfl
  go_wp2_with fail
  clear ls cs0 cs1 cs2 cs3 cs4 cs5 cs6 cs7 cs8 cs9 cs10 cs11 cs12 cs13 lt ct0 ct1 ct2 ct3
  refine (jCode_any P A Z Y Q g cg n c m cm p cp q cq D V U Q tm td tk te q cq t D.asked _ (sv_ok HS.out) (sv_los HS.out).1 (sv_los HS.out).2 (sv_asks HS.out HV.out.asked.len) HV.out.sur HT.out HV.out.plan HV.out.asked).mono ?_
  rintro e w3 ⟨rfl, b3⟩
  replace Xs := Lib.hid (box_below Xs.out b3)
  replace Xt := Lib.hid (box_below Xt.out b3)
  replace HB := Lib.hid (HB.out.trans (b3.mono HB.out.size))
  replace HV := Lib.hid (HV.out.below b3)
  replace HT := Lib.hid (HT.out.below b3)
  clear b3
  have R := Lib.hid (qc_yes (t := t) HS.out)
  go_wp2
  go_ret2
  exact ⟨R.out, HB.out⟩

set_option maxRecDepth 100000 in
set_option maxHeartbeats 2000000 in
theorem specIsServer_law (P A Z Y Q : Option Addr) (g cg n c m cm p cp q cq : Nat) (D : SvD) (w : World) (h : SvR w P A Z Y Q g n c m p cp q cq D) :
    Calls Tryz.prog 11 #[.agg #[.slice P g cg, .slice A n c, .slice Z m cm, .slice Y p cp, .int .i64 D.cost.a, .int .i64 D.cost.b, .int .i64 D.cost.c, .int .i64 D.cost.d, .int .i64 D.bud.a, .int .i64 D.bud.b, .int .i64 D.bud.c, .int .i64 D.bud.d, .int .i64 D.floor, .slice Q q cq]] w fun e w' => e = .returned (.bool (svB D)) ∧ Below w.heap.size w w' := by
  have b0 := below_new w (.cells #[.slice P g cg, .slice A n c, .slice Z m cm, .slice Y p cp, .int .i64 D.cost.a, .int .i64 D.cost.b, .int .i64 D.cost.c, .int .i64 D.cost.d, .int .i64 D.bud.a, .int .i64 D.bud.b, .int .i64 D.bud.c, .int .i64 D.bud.d, .int .i64 D.floor, .slice Q q cq] 44)
  have Xs := Lib.hid (box_new w #[.slice P g cg, .slice A n c, .slice Z m cm, .slice Y p cp, .int .i64 D.cost.a, .int .i64 D.cost.b, .int .i64 D.cost.c, .int .i64 D.cost.d, .int .i64 D.bud.a, .int .i64 D.bud.b, .int .i64 D.bud.c, .int .i64 D.bud.d, .int .i64 D.floor, .slice Q q cq] 44)
  have HB := Lib.hid b0
  have HV := Lib.hid (h.below b0)
  clear b0 h
  go_enter Tryz.func11, Tryz.ntmps11
  have ls := lt_of_block Xs.out
  have cs0 := box_cell Xs.out 0 _ rfl
  have cs1 := box_cell Xs.out 1 _ rfl
  have cs2 := box_cell Xs.out 2 _ rfl
  have cs3 := box_cell Xs.out 3 _ rfl
  have cs4 := box_cell Xs.out 4 _ rfl
  have cs5 := box_cell Xs.out 5 _ rfl
  have cs6 := box_cell Xs.out 6 _ rfl
  have cs7 := box_cell Xs.out 7 _ rfl
  have cs8 := box_cell Xs.out 8 _ rfl
  have cs9 := box_cell Xs.out 9 _ rfl
  have cs10 := box_cell Xs.out 10 _ rfl
  have cs11 := box_cell Xs.out 11 _ rfl
  have cs12 := box_cell Xs.out 12 _ rfl
  have cs13 := box_cell Xs.out 13 _ rfl
  go_wp2_with fail
  clear ls cs0 cs1 cs2 cs3 cs4 cs5 cs6 cs7 cs8 cs9 cs10 cs11 cs12 cs13
  generalize w.alloc (.cells #[.slice P g cg, .slice A n c, .slice Z m cm, .slice Y p cp, .int .i64 D.cost.a, .int .i64 D.cost.b, .int .i64 D.cost.c, .int .i64 D.cost.d, .int .i64 D.bud.a, .int .i64 D.bud.b, .int .i64 D.bud.c, .int .i64 D.bud.d, .int .i64 D.floor, .slice Q q cq] 44) = w0 at *
  refine (jGood_any P A Z Y Q g cg n c m cm p cp q cq D _ HV.out.hcp HV.out.hcq HV.out.sur HV.out.plan HV.out.asked).mono ?_
  rintro e w1 ⟨rfl, b1⟩
  replace Xs := Lib.hid (box_below Xs.out b1)
  replace HB := Lib.hid (HB.out.trans (b1.mono HB.out.size))
  replace HV := Lib.hid (HV.out.below b1)
  clear b1
  go_wp2
  go_ret
  exact ⟨rfl, HB.out⟩

theorem implIsServer_law (P A Z Y Q : Option Addr) (g cg n c m cm p cp q cq : Nat) (D : SvD) (w : World) (h : SvR w P A Z Y Q g n c m p cp q cq D) :
    Calls Tryz.prog 13 #[.agg #[.slice P g cg, .slice A n c, .slice Z m cm, .slice Y p cp, .int .i64 D.cost.a, .int .i64 D.cost.b, .int .i64 D.cost.c, .int .i64 D.cost.d, .int .i64 D.bud.a, .int .i64 D.bud.b, .int .i64 D.bud.c, .int .i64 D.bud.d, .int .i64 D.floor, .slice Q q cq]] w fun e w' => e = .returned (.bool (svB D)) ∧ Below w.heap.size w w' := IsServer_any P A Z Y Q g cg n c m cm p cp q cq D w h.hcp h.hcq h.sur h.plan h.asked

set_option maxRecDepth 100000 in
set_option maxHeartbeats 2000000 in
theorem implAnsweredLoss_law (P A Z Y Q : Option Addr) (g cg n c m cm p cp q cq : Nat) (D : SvD) (w : World) (h : SvR w P A Z Y Q g n c m p cp q cq D) :
    Calls Tryz.prog 16 #[.agg #[.slice P g cg, .slice A n c, .slice Z m cm, .slice Y p cp, .int .i64 D.cost.a, .int .i64 D.cost.b, .int .i64 D.cost.c, .int .i64 D.cost.d, .int .i64 D.bud.a, .int .i64 D.bud.b, .int .i64 D.bud.c, .int .i64 D.bud.d, .int .i64 D.floor, .slice Q q cq]] w fun e w' => e = losE (ansO D) ∧ Below w.heap.size w w' := by
  obtain ⟨b0, xs, xr⟩ := box_two w #[.slice P g cg, .slice A n c, .slice Z m cm, .slice Y p cp, .int .i64 D.cost.a, .int .i64 D.cost.b, .int .i64 D.cost.c, .int .i64 D.cost.d, .int .i64 D.bud.a, .int .i64 D.bud.b, .int .i64 D.bud.c, .int .i64 D.bud.d, .int .i64 D.floor, .slice Q q cq] #[.int .i64 0, .int .i64 0, .int .i64 0, .int .i64 0] 44 42
  have Xs := Lib.hid xs
  have Xr := Lib.hid xr
  have HB := Lib.hid b0
  have HV := Lib.hid (h.below b0)
  have hqb := h.asked.bd
  have HQL := Lib.hid h.asked.len
  clear b0 h xs xr
  go_enter Tryz.func16, Tryz.ntmps16
  have ls := lt_of_block Xs.out
  have cs0 := box_cell Xs.out 0 _ rfl
  have cs1 := box_cell Xs.out 1 _ rfl
  have cs2 := box_cell Xs.out 2 _ rfl
  have cs3 := box_cell Xs.out 3 _ rfl
  have cs4 := box_cell Xs.out 4 _ rfl
  have cs5 := box_cell Xs.out 5 _ rfl
  have cs6 := box_cell Xs.out 6 _ rfl
  have cs7 := box_cell Xs.out 7 _ rfl
  have cs8 := box_cell Xs.out 8 _ rfl
  have cs9 := box_cell Xs.out 9 _ rfl
  have cs10 := box_cell Xs.out 10 _ rfl
  have cs11 := box_cell Xs.out 11 _ rfl
  have cs12 := box_cell Xs.out 12 _ rfl
  have cs13 := box_cell Xs.out 13 _ rfl
  go_wp2_with fail
  clear ls cs0 cs1 cs2 cs3 cs4 cs5 cs6 cs7 cs8 cs9 cs10 cs11 cs12 cs13
  generalize (w.alloc (.cells #[.slice P g cg, .slice A n c, .slice Z m cm, .slice Y p cp, .int .i64 D.cost.a, .int .i64 D.cost.b, .int .i64 D.cost.c, .int .i64 D.cost.d, .int .i64 D.bud.a, .int .i64 D.bud.b, .int .i64 D.bud.c, .int .i64 D.bud.d, .int .i64 D.floor, .slice Q q cq] 44)).alloc (.cells #[.int .i64 0, .int .i64 0, .int .i64 0, .int .i64 0] 42) = w0 at *
  refine (IsServer_any P A Z Y Q g cg n c m cm p cp q cq D _ HV.out.hcp HV.out.hcq HV.out.sur HV.out.plan HV.out.asked).mono ?_
  rintro e w1 ⟨rfl, b1⟩
  replace Xs := Lib.hid (box_below Xs.out b1)
  replace Xr := Lib.hid (box_below Xr.out b1)
  replace HB := Lib.hid (HB.out.trans (b1.mono HB.out.size))
  replace HV := Lib.hid (HV.out.below b1)
  clear b1
  cases hs : svB D
  · have R := Lib.hid (ansO_no hs)
    clear hs
    have s1 := HB.out.size
    have lr := lt_of_block Xr.out
    have cr0 := box_cell Xr.out 0 _ rfl
    have cr1 := box_cell Xr.out 1 _ rfl
    have cr2 := box_cell Xr.out 2 _ rfl
    have cr3 := box_cell Xr.out 3 _ rfl
    have fr0 := box_free Xr.out 0
    have fr1 := box_free Xr.out 1
    have fr2 := box_free Xr.out 2
    have fr3 := box_free Xr.out 3
    have y4 := store_four Xr.out (.int .i64 0) (.int .i64 0) (.int .i64 0) (.int .i64 0)
    have e0 := box_cell y4 0 _ rfl
    have e1 := box_cell y4 1 _ rfl
    have e2 := box_cell y4 2 _ rfl
    have e3 := box_cell y4 3 _ rfl
    clear y4 Xs Xr HV
    go_wp2
    exact bodyPost_ret (v := .tuple #[.agg #[.int .i64 0, .int .i64 0, .int .i64 0, .int .i64 0], .bool false]) (by simp [results, Tryz.results16, go_sem, e0, e1, e2, e3]) rfl ⟨by rw [R.out]; rfl, below_four HB.out (by omega)⟩
  have HS := Lib.hid hs
  clear hs
  have HA := Lib.hid (ansO_yes HS.out HQL.out)
  have ls := lt_of_block Xs.out
  have cs0 := box_cell Xs.out 0 _ rfl
  have cs1 := box_cell Xs.out 1 _ rfl
  have cs2 := box_cell Xs.out 2 _ rfl
  have cs3 := box_cell Xs.out 3 _ rfl
  have cs4 := box_cell Xs.out 4 _ rfl
  have cs5 := box_cell Xs.out 5 _ rfl
  have cs6 := box_cell Xs.out 6 _ rfl
  have cs7 := box_cell Xs.out 7 _ rfl
  have cs8 := box_cell Xs.out 8 _ rfl
  have cs9 := box_cell Xs.out 9 _ rfl
  have cs10 := box_cell Xs.out 10 _ rfl
  have cs11 := box_cell Xs.out 11 _ rfl
  have cs12 := box_cell Xs.out 12 _ rfl
  have cs13 := box_cell Xs.out 13 _ rfl
  go_wp2_with fail
  clear ls cs0 cs1 cs2 cs3 cs4 cs5 cs6 cs7 cs8 cs9 cs10 cs11 cs12 cs13
  cases ho : ansO D with
  | none =>
    have HO := Lib.hid (HA.out.trans ho)
    have HAN := Lib.hid ho
    clear ho HA
    refine (costOf_any D.cost q none _ (by omega) (sv_los HS.out).1 HO.out).mono ?_
    rintro e w2 ⟨he, b2⟩
    obtain rfl : e = .returned (.tuple #[.agg #[.int .i64 0, .int .i64 0, .int .i64 0, .int .i64 0], .bool false]) := he
    replace Xs := Lib.hid (box_below Xs.out b2)
    replace Xr := Lib.hid (box_below Xr.out b2)
    replace HB := Lib.hid (HB.out.trans (b2.mono HB.out.size))
    replace HV := Lib.hid (HV.out.below b2)
    clear b2
    have s1 := HB.out.size
    have lr := lt_of_block Xr.out
    have cr0 := box_cell Xr.out 0 _ rfl
    have cr1 := box_cell Xr.out 1 _ rfl
    have cr2 := box_cell Xr.out 2 _ rfl
    have cr3 := box_cell Xr.out 3 _ rfl
    have fr0 := box_free Xr.out 0
    have fr1 := box_free Xr.out 1
    have fr2 := box_free Xr.out 2
    have fr3 := box_free Xr.out 3
    have y4 := store_four Xr.out (.int .i64 0) (.int .i64 0) (.int .i64 0) (.int .i64 0)
    have e0 := box_cell y4 0 _ rfl
    have e1 := box_cell y4 1 _ rfl
    have e2 := box_cell y4 2 _ rfl
    have e3 := box_cell y4 3 _ rfl
    clear y4 Xs Xr HV
    go_wp2
    exact bodyPost_ret (v := .tuple #[.agg #[.int .i64 0, .int .i64 0, .int .i64 0, .int .i64 0], .bool false]) (by simp [results, Tryz.results16, go_sem, e0, e1, e2, e3]) rfl ⟨by rw [HAN.out]; rfl, below_four HB.out (by omega)⟩
  | some z =>
    have HO := Lib.hid (HA.out.trans ho)
    have HAN := Lib.hid ho
    clear ho HA
    refine (costOf_any D.cost q (some z) _ (by omega) (sv_los HS.out).1 HO.out).mono ?_
    rintro e w2 ⟨he, b2⟩
    obtain rfl : e = .returned (.tuple #[.agg #[.int .i64 z.a, .int .i64 z.b, .int .i64 z.c, .int .i64 z.d], .bool true]) := he
    replace Xs := Lib.hid (box_below Xs.out b2)
    replace Xr := Lib.hid (box_below Xr.out b2)
    replace HB := Lib.hid (HB.out.trans (b2.mono HB.out.size))
    replace HV := Lib.hid (HV.out.below b2)
    clear b2
    have s1 := HB.out.size
    have lr := lt_of_block Xr.out
    have cr0 := box_cell Xr.out 0 _ rfl
    have cr1 := box_cell Xr.out 1 _ rfl
    have cr2 := box_cell Xr.out 2 _ rfl
    have cr3 := box_cell Xr.out 3 _ rfl
    have fr0 := box_free Xr.out 0
    have fr1 := box_free Xr.out 1
    have fr2 := box_free Xr.out 2
    have fr3 := box_free Xr.out 3
    have y4 := store_four Xr.out (.int .i64 z.a) (.int .i64 z.b) (.int .i64 z.c) (.int .i64 z.d)
    have e0 := box_cell y4 0 _ rfl
    have e1 := box_cell y4 1 _ rfl
    have e2 := box_cell y4 2 _ rfl
    have e3 := box_cell y4 3 _ rfl
    clear y4 Xs Xr HV
    go_wp2
    exact bodyPost_ret (v := .tuple #[.agg #[.int .i64 z.a, .int .i64 z.b, .int .i64 z.c, .int .i64 z.d], .bool true]) (by simp [results, Tryz.results16, go_sem, e0, e1, e2, e3]) rfl ⟨by rw [HAN.out]; rfl, below_four HB.out (by omega)⟩

set_option maxRecDepth 100000 in
set_option maxHeartbeats 2000000 in
theorem specAnsweredLoss_law (P A Z Y Q : Option Addr) (g cg n c m cm p cp q cq : Nat) (D : SvD) (w : World) (h : SvR w P A Z Y Q g n c m p cp q cq D) :
    Calls Tryz.prog 15 #[.agg #[.slice P g cg, .slice A n c, .slice Z m cm, .slice Y p cp, .int .i64 D.cost.a, .int .i64 D.cost.b, .int .i64 D.cost.c, .int .i64 D.cost.d, .int .i64 D.bud.a, .int .i64 D.bud.b, .int .i64 D.bud.c, .int .i64 D.bud.d, .int .i64 D.floor, .slice Q q cq]] w fun e w' => e = losE (ansO D) ∧ Below w.heap.size w w' := by
  obtain ⟨b0, xs, xr⟩ := box_two w #[.slice P g cg, .slice A n c, .slice Z m cm, .slice Y p cp, .int .i64 D.cost.a, .int .i64 D.cost.b, .int .i64 D.cost.c, .int .i64 D.cost.d, .int .i64 D.bud.a, .int .i64 D.bud.b, .int .i64 D.bud.c, .int .i64 D.bud.d, .int .i64 D.floor, .slice Q q cq] #[.int .i64 0, .int .i64 0, .int .i64 0, .int .i64 0] 44 42
  have Xs := Lib.hid xs
  have Xr := Lib.hid xr
  have HB := Lib.hid b0
  have HV := Lib.hid (h.below b0)
  have hqb := h.asked.bd
  have HQL := Lib.hid h.asked.len
  clear b0 h xs xr
  go_enter Tryz.func15, Tryz.ntmps15
  have ls := lt_of_block Xs.out
  have cs0 := box_cell Xs.out 0 _ rfl
  have cs1 := box_cell Xs.out 1 _ rfl
  have cs2 := box_cell Xs.out 2 _ rfl
  have cs3 := box_cell Xs.out 3 _ rfl
  have cs4 := box_cell Xs.out 4 _ rfl
  have cs5 := box_cell Xs.out 5 _ rfl
  have cs6 := box_cell Xs.out 6 _ rfl
  have cs7 := box_cell Xs.out 7 _ rfl
  have cs8 := box_cell Xs.out 8 _ rfl
  have cs9 := box_cell Xs.out 9 _ rfl
  have cs10 := box_cell Xs.out 10 _ rfl
  have cs11 := box_cell Xs.out 11 _ rfl
  have cs12 := box_cell Xs.out 12 _ rfl
  have cs13 := box_cell Xs.out 13 _ rfl
  go_wp2_with fail
  clear ls cs0 cs1 cs2 cs3 cs4 cs5 cs6 cs7 cs8 cs9 cs10 cs11 cs12 cs13
  generalize (w.alloc (.cells #[.slice P g cg, .slice A n c, .slice Z m cm, .slice Y p cp, .int .i64 D.cost.a, .int .i64 D.cost.b, .int .i64 D.cost.c, .int .i64 D.cost.d, .int .i64 D.bud.a, .int .i64 D.bud.b, .int .i64 D.bud.c, .int .i64 D.bud.d, .int .i64 D.floor, .slice Q q cq] 44)).alloc (.cells #[.int .i64 0, .int .i64 0, .int .i64 0, .int .i64 0] 42) = w0 at *
  refine (jGood_any P A Z Y Q g cg n c m cm p cp q cq D _ HV.out.hcp HV.out.hcq HV.out.sur HV.out.plan HV.out.asked).mono ?_
  rintro e w1 ⟨rfl, b1⟩
  replace Xs := Lib.hid (box_below Xs.out b1)
  replace Xr := Lib.hid (box_below Xr.out b1)
  replace HB := Lib.hid (HB.out.trans (b1.mono HB.out.size))
  replace HV := Lib.hid (HV.out.below b1)
  clear b1
  cases hs : svB D
  · have R := Lib.hid (ansO_no hs)
    clear hs
    have s1 := HB.out.size
    have lr := lt_of_block Xr.out
    have cr0 := box_cell Xr.out 0 _ rfl
    have cr1 := box_cell Xr.out 1 _ rfl
    have cr2 := box_cell Xr.out 2 _ rfl
    have cr3 := box_cell Xr.out 3 _ rfl
    have fr0 := box_free Xr.out 0
    have fr1 := box_free Xr.out 1
    have fr2 := box_free Xr.out 2
    have fr3 := box_free Xr.out 3
    have y4 := store_four Xr.out (.int .i64 0) (.int .i64 0) (.int .i64 0) (.int .i64 0)
    have e0 := box_cell y4 0 _ rfl
    have e1 := box_cell y4 1 _ rfl
    have e2 := box_cell y4 2 _ rfl
    have e3 := box_cell y4 3 _ rfl
    clear y4 Xs Xr HV
    go_wp2
    exact bodyPost_ret (v := .tuple #[.agg #[.int .i64 0, .int .i64 0, .int .i64 0, .int .i64 0], .bool false]) (by simp [results, Tryz.results15, go_sem, e0, e1, e2, e3]) rfl ⟨by rw [R.out]; rfl, below_four HB.out (by omega)⟩
  have HS := Lib.hid hs
  clear hs
  have HA := Lib.hid (ansO_yes HS.out HQL.out)
  have ls := lt_of_block Xs.out
  have cs0 := box_cell Xs.out 0 _ rfl
  have cs1 := box_cell Xs.out 1 _ rfl
  have cs2 := box_cell Xs.out 2 _ rfl
  have cs3 := box_cell Xs.out 3 _ rfl
  have cs4 := box_cell Xs.out 4 _ rfl
  have cs5 := box_cell Xs.out 5 _ rfl
  have cs6 := box_cell Xs.out 6 _ rfl
  have cs7 := box_cell Xs.out 7 _ rfl
  have cs8 := box_cell Xs.out 8 _ rfl
  have cs9 := box_cell Xs.out 9 _ rfl
  have cs10 := box_cell Xs.out 10 _ rfl
  have cs11 := box_cell Xs.out 11 _ rfl
  have cs12 := box_cell Xs.out 12 _ rfl
  have cs13 := box_cell Xs.out 13 _ rfl
  go_wp2_with fail
  clear ls cs0 cs1 cs2 cs3 cs4 cs5 cs6 cs7 cs8 cs9 cs10 cs11 cs12 cs13
  cases ho : ansO D with
  | none =>
    have HO := Lib.hid (HA.out.trans ho)
    have HAN := Lib.hid ho
    clear ho HA
    refine (jSpent_any P A Z Y Q g cg n c m cm p cp q cq D q none _ (by omega) (sv_los HS.out).1 HO.out).mono ?_
    rintro e w2 ⟨he, b2⟩
    obtain rfl : e = .returned (.tuple #[.agg #[.int .i64 0, .int .i64 0, .int .i64 0, .int .i64 0], .bool false]) := he
    replace Xs := Lib.hid (box_below Xs.out b2)
    replace Xr := Lib.hid (box_below Xr.out b2)
    replace HB := Lib.hid (HB.out.trans (b2.mono HB.out.size))
    replace HV := Lib.hid (HV.out.below b2)
    clear b2
    have s1 := HB.out.size
    have lr := lt_of_block Xr.out
    have cr0 := box_cell Xr.out 0 _ rfl
    have cr1 := box_cell Xr.out 1 _ rfl
    have cr2 := box_cell Xr.out 2 _ rfl
    have cr3 := box_cell Xr.out 3 _ rfl
    have fr0 := box_free Xr.out 0
    have fr1 := box_free Xr.out 1
    have fr2 := box_free Xr.out 2
    have fr3 := box_free Xr.out 3
    have y4 := store_four Xr.out (.int .i64 0) (.int .i64 0) (.int .i64 0) (.int .i64 0)
    have e0 := box_cell y4 0 _ rfl
    have e1 := box_cell y4 1 _ rfl
    have e2 := box_cell y4 2 _ rfl
    have e3 := box_cell y4 3 _ rfl
    clear y4 Xs Xr HV
    go_wp2
    exact bodyPost_ret (v := .tuple #[.agg #[.int .i64 0, .int .i64 0, .int .i64 0, .int .i64 0], .bool false]) (by simp [results, Tryz.results15, go_sem, e0, e1, e2, e3]) rfl ⟨by rw [HAN.out]; rfl, below_four HB.out (by omega)⟩
  | some z =>
    have HO := Lib.hid (HA.out.trans ho)
    have HAN := Lib.hid ho
    clear ho HA
    refine (jSpent_any P A Z Y Q g cg n c m cm p cp q cq D q (some z) _ (by omega) (sv_los HS.out).1 HO.out).mono ?_
    rintro e w2 ⟨he, b2⟩
    obtain rfl : e = .returned (.tuple #[.agg #[.int .i64 z.a, .int .i64 z.b, .int .i64 z.c, .int .i64 z.d], .bool true]) := he
    replace Xs := Lib.hid (box_below Xs.out b2)
    replace Xr := Lib.hid (box_below Xr.out b2)
    replace HB := Lib.hid (HB.out.trans (b2.mono HB.out.size))
    replace HV := Lib.hid (HV.out.below b2)
    clear b2
    have s1 := HB.out.size
    have lr := lt_of_block Xr.out
    have cr0 := box_cell Xr.out 0 _ rfl
    have cr1 := box_cell Xr.out 1 _ rfl
    have cr2 := box_cell Xr.out 2 _ rfl
    have cr3 := box_cell Xr.out 3 _ rfl
    have fr0 := box_free Xr.out 0
    have fr1 := box_free Xr.out 1
    have fr2 := box_free Xr.out 2
    have fr3 := box_free Xr.out 3
    have y4 := store_four Xr.out (.int .i64 z.a) (.int .i64 z.b) (.int .i64 z.c) (.int .i64 z.d)
    have e0 := box_cell y4 0 _ rfl
    have e1 := box_cell y4 1 _ rfl
    have e2 := box_cell y4 2 _ rfl
    have e3 := box_cell y4 3 _ rfl
    clear y4 Xs Xr HV
    go_wp2
    exact bodyPost_ret (v := .tuple #[.agg #[.int .i64 z.a, .int .i64 z.b, .int .i64 z.c, .int .i64 z.d], .bool true]) (by simp [results, Tryz.results15, go_sem, e0, e1, e2, e3]) rfl ⟨by rw [HAN.out]; rfl, below_four HB.out (by omega)⟩
end

section
open Go.RowKit

/-- The open tables of a server. -/
def opP (D : SvD) (i : Nat) : Bool := codeV D D.asked (tX D.plan i) == 0
def opV (D : SvD) : List Int := if svB D = true then linkK (opP D) D.plan.length else []
theorem opV_no {D : SvD} (h : svB D = false) : opV D = [] := by unfold opV; rw [if_neg (by rw [h]; simp)]
theorem opV_yes {D : SvD} (h : svB D = true) {p : Nat} (hp : D.plan.length = p) : opV D = linkK (opP D) p := by unfold opV; rw [if_pos h, hp]
theorem opV_len (D : SvD) : (opV D).length ≤ D.plan.length := by
  unfold opV
  split
  · exact linkK_len _ _
  · simp

set_option maxRecDepth 100000 in
set_option maxHeartbeats 2000000 in
theorem implOpenTables_law (P A Z Y Q : Option Addr) (g cg n c m cm p cp q cq : Nat) (D : SvD) (w : World) (h : SvR w P A Z Y Q g n c m p cp q cq D) :
    Calls Tryz.prog 26 #[.agg #[.slice P g cg, .slice A n c, .slice Z m cm, .slice Y p cp, .int .i64 D.cost.a, .int .i64 D.cost.b, .int .i64 D.cost.c, .int .i64 D.cost.d, .int .i64 D.bud.a, .int .i64 D.bud.b, .int .i64 D.bud.c, .int .i64 D.bud.d, .int .i64 D.floor, .slice Q q cq]] w (RetInts w (opV D) (svB D)) := by
  have b0 := below_new w (.cells #[.slice P g cg, .slice A n c, .slice Z m cm, .slice Y p cp, .int .i64 D.cost.a, .int .i64 D.cost.b, .int .i64 D.cost.c, .int .i64 D.cost.d, .int .i64 D.bud.a, .int .i64 D.bud.b, .int .i64 D.bud.c, .int .i64 D.bud.d, .int .i64 D.floor, .slice Q q cq] 44)
  have Xs := Lib.hid (box_new w #[.slice P g cg, .slice A n c, .slice Z m cm, .slice Y p cp, .int .i64 D.cost.a, .int .i64 D.cost.b, .int .i64 D.cost.c, .int .i64 D.cost.d, .int .i64 D.bud.a, .int .i64 D.bud.b, .int .i64 D.bud.c, .int .i64 D.bud.d, .int .i64 D.floor, .slice Q q cq] 44)
  have HB := Lib.hid b0
  have HV := Lib.hid (h.below b0)
  have hpb := h.plan.bd
  have HPL := Lib.hid h.plan.len
  clear b0 h
  go_enter Tryz.func26, Tryz.ntmps26
  have ls := lt_of_block Xs.out
  have cs0 := box_cell Xs.out 0 _ rfl
  have cs1 := box_cell Xs.out 1 _ rfl
  have cs2 := box_cell Xs.out 2 _ rfl
  have cs3 := box_cell Xs.out 3 _ rfl
  have cs4 := box_cell Xs.out 4 _ rfl
  have cs5 := box_cell Xs.out 5 _ rfl
  have cs6 := box_cell Xs.out 6 _ rfl
  have cs7 := box_cell Xs.out 7 _ rfl
  have cs8 := box_cell Xs.out 8 _ rfl
  have cs9 := box_cell Xs.out 9 _ rfl
  have cs10 := box_cell Xs.out 10 _ rfl
  have cs11 := box_cell Xs.out 11 _ rfl
  have cs12 := box_cell Xs.out 12 _ rfl
  have cs13 := box_cell Xs.out 13 _ rfl
  go_wp2_with fail
  clear ls cs0 cs1 cs2 cs3 cs4 cs5 cs6 cs7 cs8 cs9 cs10 cs11 cs12 cs13
  generalize w.alloc (.cells #[.slice P g cg, .slice A n c, .slice Z m cm, .slice Y p cp, .int .i64 D.cost.a, .int .i64 D.cost.b, .int .i64 D.cost.c, .int .i64 D.cost.d, .int .i64 D.bud.a, .int .i64 D.bud.b, .int .i64 D.bud.c, .int .i64 D.bud.d, .int .i64 D.floor, .slice Q q cq] 44) = w0 at *
  refine (IsServer_any P A Z Y Q g cg n c m cm p cp q cq D _ HV.out.hcp HV.out.hcq HV.out.sur HV.out.plan HV.out.asked).mono ?_
  rintro e w1 ⟨rfl, b1⟩
  replace Xs := Lib.hid (box_below Xs.out b1)
  replace HB := Lib.hid (HB.out.trans (b1.mono HB.out.size))
  replace HV := Lib.hid (HV.out.below b1)
  clear b1
  cases hs : svB D
  · have R := Lib.hid (opV_no hs)
    have HF := Lib.hid hs
    clear hs
    go_wp2
    go_ret2
    rw [R.out, HF.out]
    exact ⟨none, 0, rfl, OwnI.nil_, HB.out⟩
  have HS := Lib.hid hs
  clear hs
  have R := Lib.hid (opV_yes HS.out HPL.out)
  have s1 := HB.out.size
  have HPD := Lib.hid (show ∀ j, opP D j = (codeV D D.asked (tX D.plan j) == 0) from fun _ => rfl)
  have ls := lt_of_block Xs.out
  have cs3 := box_cell Xs.out 3 _ rfl
  go_wp2
  clear ls cs3
  go_loopw [4, 13] (fun a i wr => ∃ (j : Nat) (B2 : Option Addr) (c2 : Nat), j ≤ p ∧ i = .int .i64 j ∧ a = .slice B2 (linkK (opP D) j).length c2 ∧ Own wr w1.heap.size B2 (linkK (opP D) j).length c2 (linkK (opP D) j) ∧ Below w1.heap.size w1 wr) (fun _ i _ => p - (intOf i).toNat)
  case atStart => exact ⟨0, none, 0, Nat.zero_le _, rfl, rfl, Own.nil_, Below.refl _ _⟩
  case round =>
    obtain ⟨j, B2, c2, hj, rfl, rfl, hown, hbw⟩ := hrel
    have hkl := linkK_len (opP D) j
    by_cases hlt : j < p
    · obtain ⟨ad, rfl, V', m', d', U', k', e', c0, c1, c2', c3, hu⟩ := (HV.out.plan.below hbw).at_ hlt
      have bj := below_new wr (.cells #[.int .i64 (tX D.plan j).lv, .slice V' m' d', .slice U' k' e', .int .i64 (tX D.plan j).sum] 56)
      have XN := Lib.hid (box_new wr #[.int .i64 (tX D.plan j).lv, .slice V' m' d', .slice U' k' e', .int .i64 (tX D.plan j).sum] 56)
      have HU := Lib.hid (hu.below bj)
      have XS := Lib.hid (box_below (box_below Xs.out hbw) bj)
      have HO := Lib.hid (hown.below bj)
      have HW := Lib.hid (hbw.trans (bj.mono hbw.size))
      clear hu bj hbw hown
      have ls := lt_of_block XS.out
      have ln := lt_of_block XN.out
      have qs0 := box_cell XS.out 0 _ rfl
      have qs1 := box_cell XS.out 1 _ rfl
      have qs2 := box_cell XS.out 2 _ rfl
      have qs3 := box_cell XS.out 3 _ rfl
      have qs4 := box_cell XS.out 4 _ rfl
      have qs5 := box_cell XS.out 5 _ rfl
      have qs6 := box_cell XS.out 6 _ rfl
      have qs7 := box_cell XS.out 7 _ rfl
      have qs8 := box_cell XS.out 8 _ rfl
      have qs9 := box_cell XS.out 9 _ rfl
      have qs10 := box_cell XS.out 10 _ rfl
      have qs11 := box_cell XS.out 11 _ rfl
      have qs12 := box_cell XS.out 12 _ rfl
      have qs13 := box_cell XS.out 13 _ rfl
      have qn0 := box_cell XN.out 0 _ rfl
      have qn1 := box_cell XN.out 1 _ rfl
      have qn2 := box_cell XN.out 2 _ rfl
      have qn3 := box_cell XN.out 3 _ rfl
      go_wp2_with fail
      clear ls ln c0 c1 c2' c3 qs0 qs1 qs2 qs3 qs4 qs5 qs6 qs7 qs8 qs9 qs10 qs11 qs12 qs13 qn0 qn1 qn2 qn3
      generalize wr.alloc (.cells #[.int .i64 (tX D.plan j).lv, .slice V' m' d', .slice U' k' e', .int .i64 (tX D.plan j).sum] 56) = w4 at *
      refine (queryCode_any P A Z (some ad) Q g cg n c m cm p cp q cq D V' U' m' d' k' e' (tX D.plan j) D.asked _ (sv_ok HS.out) (sv_los HS.out).1 (sv_los HS.out).2 (sv_asks HS.out HV.out.asked.len) (HV.out.sur.below HW.out) HU.out (HV.out.plan.below HW.out) (HV.out.asked.below HW.out)).mono ?_
      rintro e w5 ⟨rfl, b5⟩
      have hbw5 := HW.out.trans (b5.mono HW.out.size)
      have hown5 := HO.out.below b5
      have hsz := hbw5.size
      clear b5 HW HO XS XN HU
      have HPj := Lib.hid (HPD.out j)
      generalize codeV D D.asked (tX D.plan j) = cd at *
      by_cases h0 : cd = 0
      · have hq : (cd == 0) = true := by rw [h0]; rfl
        have HJ := Lib.hid (linkK_yes (p := opP D) (k := j) (HPj.out.trans hq))
        have HJ2 := Lib.hid (show (linkK (opP D) (j + 1)).length = (linkK (opP D) j).length + 1 by rw [HJ.out]; simp)
        clear h0
        generalize linkK (opP D) j = K0 at *
        generalize K0.length = k0 at *
        go_wp2_with (at_builtin; refine wp_app1 (v := (j : Int)) rfl _ _ rfl w1.heap.size B2 k0 c2 K0 rfl hown5 _ rfl rfl (by omega) hsz ?_; intro A3 c3 w6 hown6 hg6 _)
        have hb6 := Lib.hid (below_write hbw5 hg6 hsz (fun k hk => (hown5.row_ge k hk).1))
        rw [← HJ.out] at hown6
        have HO6 := Lib.hid hown6
        clear hown5 hbw5 hg6 hown6
        go_wp2
        go_roundw
        case rel => exact ⟨j + 1, A3, c3, by omega, by go_num, by rw [HJ2.out], by rw [HJ2.out]; exact HO6.out, hb6.out⟩
        case measure => simp [intOf]; omega
      · have hq : (cd == 0) = false := by rw [beq_eq_false_iff_ne]; exact h0
        have HJ := Lib.hid (linkK_no (p := opP D) (k := j) (HPj.out.trans hq))
        clear h0
        go_wp2
        go_roundw
        case rel => exact ⟨j + 1, B2, c2, by omega, by go_num, by rw [HJ.out], by rw [HJ.out]; exact hown5, hbw5⟩
        case measure => simp [intOf]; omega
    · obtain rfl : p = j := by omega
      have HO := Lib.hid hown
      have HW := Lib.hid hbw
      clear hown hbw
      go_wp2
      go_ret2
      rw [R.out, HS.out]
      exact ⟨B2, c2, rfl, (OwnI.of_own HO.out (by omega)).fit s1, HB.out.trans (HW.out.mono s1)⟩

set_option maxRecDepth 100000 in
set_option maxHeartbeats 2000000 in
theorem specOpenTables_law (P A Z Y Q : Option Addr) (g cg n c m cm p cp q cq : Nat) (D : SvD) (w : World) (h : SvR w P A Z Y Q g n c m p cp q cq D) :
    Calls Tryz.prog 25 #[.agg #[.slice P g cg, .slice A n c, .slice Z m cm, .slice Y p cp, .int .i64 D.cost.a, .int .i64 D.cost.b, .int .i64 D.cost.c, .int .i64 D.cost.d, .int .i64 D.bud.a, .int .i64 D.bud.b, .int .i64 D.bud.c, .int .i64 D.bud.d, .int .i64 D.floor, .slice Q q cq]] w (RetInts w (opV D) (svB D)) := by
  have b0 := below_new w (.cells #[.slice P g cg, .slice A n c, .slice Z m cm, .slice Y p cp, .int .i64 D.cost.a, .int .i64 D.cost.b, .int .i64 D.cost.c, .int .i64 D.cost.d, .int .i64 D.bud.a, .int .i64 D.bud.b, .int .i64 D.bud.c, .int .i64 D.bud.d, .int .i64 D.floor, .slice Q q cq] 44)
  have Xs := Lib.hid (box_new w #[.slice P g cg, .slice A n c, .slice Z m cm, .slice Y p cp, .int .i64 D.cost.a, .int .i64 D.cost.b, .int .i64 D.cost.c, .int .i64 D.cost.d, .int .i64 D.bud.a, .int .i64 D.bud.b, .int .i64 D.bud.c, .int .i64 D.bud.d, .int .i64 D.floor, .slice Q q cq] 44)
  have HB := Lib.hid b0
  have HV := Lib.hid (h.below b0)
  have hpb := h.plan.bd
  have HPL := Lib.hid h.plan.len
  clear b0 h
  go_enter Tryz.func25, Tryz.ntmps25
  have ls := lt_of_block Xs.out
  have cs0 := box_cell Xs.out 0 _ rfl
  have cs1 := box_cell Xs.out 1 _ rfl
  have cs2 := box_cell Xs.out 2 _ rfl
  have cs3 := box_cell Xs.out 3 _ rfl
  have cs4 := box_cell Xs.out 4 _ rfl
  have cs5 := box_cell Xs.out 5 _ rfl
  have cs6 := box_cell Xs.out 6 _ rfl
  have cs7 := box_cell Xs.out 7 _ rfl
  have cs8 := box_cell Xs.out 8 _ rfl
  have cs9 := box_cell Xs.out 9 _ rfl
  have cs10 := box_cell Xs.out 10 _ rfl
  have cs11 := box_cell Xs.out 11 _ rfl
  have cs12 := box_cell Xs.out 12 _ rfl
  have cs13 := box_cell Xs.out 13 _ rfl
  go_wp2_with fail
  clear ls cs0 cs1 cs2 cs3 cs4 cs5 cs6 cs7 cs8 cs9 cs10 cs11 cs12 cs13
  generalize w.alloc (.cells #[.slice P g cg, .slice A n c, .slice Z m cm, .slice Y p cp, .int .i64 D.cost.a, .int .i64 D.cost.b, .int .i64 D.cost.c, .int .i64 D.cost.d, .int .i64 D.bud.a, .int .i64 D.bud.b, .int .i64 D.bud.c, .int .i64 D.bud.d, .int .i64 D.floor, .slice Q q cq] 44) = w0 at *
  refine (jGood_any P A Z Y Q g cg n c m cm p cp q cq D _ HV.out.hcp HV.out.hcq HV.out.sur HV.out.plan HV.out.asked).mono ?_
  rintro e w1 ⟨rfl, b1⟩
  replace Xs := Lib.hid (box_below Xs.out b1)
  replace HB := Lib.hid (HB.out.trans (b1.mono HB.out.size))
  replace HV := Lib.hid (HV.out.below b1)
  clear b1
  cases hs : svB D
  · have R := Lib.hid (opV_no hs)
    have HF := Lib.hid hs
    clear hs
    go_wp2
    go_ret2
    rw [R.out, HF.out]
    exact ⟨none, 0, rfl, OwnI.nil_, HB.out⟩
  have HS := Lib.hid hs
  clear hs
  have R := Lib.hid (opV_yes HS.out HPL.out)
  have s1 := HB.out.size
  have HPD := Lib.hid (show ∀ j, opP D j = (codeV D D.asked (tX D.plan j) == 0) from fun _ => rfl)
  have ls := lt_of_block Xs.out
  have cs3 := box_cell Xs.out 3 _ rfl
  go_wp2
  clear ls cs3
  go_loopw [4, 13] (fun a i wr => ∃ (j : Nat) (B2 : Option Addr) (c2 : Nat), j ≤ p ∧ i = .int .i64 j ∧ a = .slice B2 (linkK (opP D) j).length c2 ∧ Own wr w1.heap.size B2 (linkK (opP D) j).length c2 (linkK (opP D) j) ∧ Below w1.heap.size w1 wr) (fun _ i _ => p - (intOf i).toNat)
  case atStart => exact ⟨0, none, 0, Nat.zero_le _, rfl, rfl, Own.nil_, Below.refl _ _⟩
  case round =>
    obtain ⟨j, B2, c2, hj, rfl, rfl, hown, hbw⟩ := hrel
    have hkl := linkK_len (opP D) j
    by_cases hlt : j < p
    · obtain ⟨ad, rfl, V', m', d', U', k', e', c0, c1, c2', c3, hu⟩ := (HV.out.plan.below hbw).at_ hlt
      have bj := below_new wr (.cells #[.int .i64 (tX D.plan j).lv, .slice V' m' d', .slice U' k' e', .int .i64 (tX D.plan j).sum] 56)
      have XN := Lib.hid (box_new wr #[.int .i64 (tX D.plan j).lv, .slice V' m' d', .slice U' k' e', .int .i64 (tX D.plan j).sum] 56)
      have HU := Lib.hid (hu.below bj)
      have XS := Lib.hid (box_below (box_below Xs.out hbw) bj)
      have HO := Lib.hid (hown.below bj)
      have HW := Lib.hid (hbw.trans (bj.mono hbw.size))
      clear hu bj hbw hown
      have ls := lt_of_block XS.out
      have ln := lt_of_block XN.out
      have qs0 := box_cell XS.out 0 _ rfl
      have qs1 := box_cell XS.out 1 _ rfl
      have qs2 := box_cell XS.out 2 _ rfl
      have qs3 := box_cell XS.out 3 _ rfl
      have qs4 := box_cell XS.out 4 _ rfl
      have qs5 := box_cell XS.out 5 _ rfl
      have qs6 := box_cell XS.out 6 _ rfl
      have qs7 := box_cell XS.out 7 _ rfl
      have qs8 := box_cell XS.out 8 _ rfl
      have qs9 := box_cell XS.out 9 _ rfl
      have qs10 := box_cell XS.out 10 _ rfl
      have qs11 := box_cell XS.out 11 _ rfl
      have qs12 := box_cell XS.out 12 _ rfl
      have qs13 := box_cell XS.out 13 _ rfl
      have qn0 := box_cell XN.out 0 _ rfl
      have qn1 := box_cell XN.out 1 _ rfl
      have qn2 := box_cell XN.out 2 _ rfl
      have qn3 := box_cell XN.out 3 _ rfl
      go_wp2_with fail
      clear ls ln c0 c1 c2' c3 qs0 qs1 qs2 qs3 qs4 qs5 qs6 qs7 qs8 qs9 qs10 qs11 qs12 qs13 qn0 qn1 qn2 qn3
      generalize wr.alloc (.cells #[.int .i64 (tX D.plan j).lv, .slice V' m' d', .slice U' k' e', .int .i64 (tX D.plan j).sum] 56) = w4 at *
      refine (jCode_any P A Z (some ad) Q g cg n c m cm p cp q cq D V' U' Q m' d' k' e' q cq (tX D.plan j) D.asked _ (sv_ok HS.out) (sv_los HS.out).1 (sv_los HS.out).2 (sv_asks HS.out HV.out.asked.len) (HV.out.sur.below HW.out) HU.out (HV.out.plan.below HW.out) (HV.out.asked.below HW.out)).mono ?_
      rintro e w5 ⟨rfl, b5⟩
      have hbw5 := HW.out.trans (b5.mono HW.out.size)
      have hown5 := HO.out.below b5
      have hsz := hbw5.size
      clear b5 HW HO XS XN HU
      have HPj := Lib.hid (HPD.out j)
      generalize codeV D D.asked (tX D.plan j) = cd at *
      by_cases h0 : cd = 0
      · have hq : (cd == 0) = true := by rw [h0]; rfl
        have HJ := Lib.hid (linkK_yes (p := opP D) (k := j) (HPj.out.trans hq))
        have HJ2 := Lib.hid (show (linkK (opP D) (j + 1)).length = (linkK (opP D) j).length + 1 by rw [HJ.out]; simp)
        clear h0
        generalize linkK (opP D) j = K0 at *
        generalize K0.length = k0 at *
        go_wp2_with (at_builtin; refine wp_app1 (v := (j : Int)) rfl _ _ rfl w1.heap.size B2 k0 c2 K0 rfl hown5 _ rfl rfl (by omega) hsz ?_; intro A3 c3 w6 hown6 hg6 _)
        have hb6 := Lib.hid (below_write hbw5 hg6 hsz (fun k hk => (hown5.row_ge k hk).1))
        rw [← HJ.out] at hown6
        have HO6 := Lib.hid hown6
        clear hown5 hbw5 hg6 hown6
        go_wp2
        go_roundw
        case rel => exact ⟨j + 1, A3, c3, by omega, by go_num, by rw [HJ2.out], by rw [HJ2.out]; exact HO6.out, hb6.out⟩
        case measure => simp [intOf]; omega
      · have hq : (cd == 0) = false := by rw [beq_eq_false_iff_ne]; exact h0
        have HJ := Lib.hid (linkK_no (p := opP D) (k := j) (HPj.out.trans hq))
        clear h0
        go_wp2
        go_roundw
        case rel => exact ⟨j + 1, B2, c2, by omega, by go_num, by rw [HJ.out], by rw [HJ.out]; exact hown5, hbw5⟩
        case measure => simp [intOf]; omega
    · obtain rfl : p = j := by omega
      have HO := Lib.hid hown
      have HW := Lib.hid hbw
      clear hown hbw
      go_wp2
      go_ret2
      rw [R.out, HS.out]
      exact ⟨B2, c2, rfl, (OwnI.of_own HO.out (by omega)).fit s1, HB.out.trans (HW.out.mono s1)⟩
end
end Go.Proofs.YtfanpbfmnckmnaaGreat
