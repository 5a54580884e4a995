/- Several small texts in one: PubA, PubB. -/
import Derived.Test.YtfanpbfmnckmnaaGreatYk
import Derived.Test.YtfanpbfmnckmnaaGreatClass
namespace Go.Proofs.YtfanpbfmnckmnaaGreat

section
open Go.RowKit

section
variable {D : SvD} {t : TabD}
theorem svB_parts (h : svB D = true) : geoB D.par = true ∧ schB D.vs = true ∧ surB D.par D.vs D.rs = true ∧ losB D.cost = true ∧ losB D.bud = true ∧ allTo (planOk D) D.plan.length = true ∧ allTo (askOk D) D.asked.length = true := by
  unfold svB at h
  simp only [Bool.and_eq_true, decide_eq_true_eq] at h
  obtain ⟨h1, h2, h3, _, h5, h6, _, h8, h9⟩ := h
  exact ⟨h1, h2, h3, h5, h6, h8, h9⟩
theorem sv_ok (h : svB D = true) : SurOk D := ⟨(svB_parts h).1, (svB_parts h).2.1, (svB_parts h).2.2.1⟩
theorem sv_los (h : svB D = true) : LosOk D.cost ∧ LosOk D.bud := ⟨losB_ok (svB_parts h).2.2.2.1, losB_ok (svB_parts h).2.2.2.2.1⟩
theorem sv_asks (h : svB D = true) {q : Nat} (hq : D.asked.length = q) (j : Nat) (hj : j < q) : tabB D.par D.vs (tX D.asked j) = true := code0_tab (askOk_code (allTo_of (svB_parts h).2.2.2.2.2.2 j (by omega)))
/-- The answers of the public functions. -/
def ansO (D : SvD) : Option LosD := if svB D = true then costO D.cost D.asked.length else none
theorem ansO_no (h : svB D = false) : ansO D = none := by unfold ansO; rw [if_neg (by rw [h]; simp)]
theorem ansO_yes (h : svB D = true) {q : Nat} (hq : D.asked.length = q) : costO D.cost q = ansO D := by unfold ansO; rw [if_pos h, hq]
end

set_option maxRecDepth 100000 in
set_option maxHeartbeats 2000000 in
theorem implAnsweredLoss_law (P A Z Y Q : Option Addr) (g cg n c m cm p cp q cq : Nat) (D : SvD) (w : World) (h : SvR w P A Z Y Q g n c m p cp q cq D) :
    Calls Tryz.prog 16 #[.agg #[.slice P g cg, .slice A n c, .slice Z m cm, .slice Y p cp, .int .i64 D.cost.a, .int .i64 D.cost.b, .int .i64 D.cost.c, .int .i64 D.cost.d, .int .i64 D.bud.a, .int .i64 D.bud.b, .int .i64 D.bud.c, .int .i64 D.bud.d, .int .i64 D.floor, .slice Q q cq]] w fun e w' => e = losE (ansO D) ∧ Below w.heap.size w w' := by
  obtain ⟨b0, xs, xr⟩ := box_two w #[.slice P g cg, .slice A n c, .slice Z m cm, .slice Y p cp, .int .i64 D.cost.a, .int .i64 D.cost.b, .int .i64 D.cost.c, .int .i64 D.cost.d, .int .i64 D.bud.a, .int .i64 D.bud.b, .int .i64 D.bud.c, .int .i64 D.bud.d, .int .i64 D.floor, .slice Q q cq] #[.int .i64 0, .int .i64 0, .int .i64 0, .int .i64 0] 44 42
  have Xs := Lib.hid xs
  have Xr := Lib.hid xr
  have HB := Lib.hid b0
  have HV := Lib.hid (h.below b0)
  have hqb := h.asked.bd
  have HQL := Lib.hid h.asked.len
  clear b0 h xs xr
  go_enter Tryz.func16, Tryz.ntmps16
  have ls := lt_of_block Xs.out
  have cs0 := bxc Xs.out 0 _ rfl
  have cs1 := bxc Xs.out 1 _ rfl
  have cs2 := bxc Xs.out 2 _ rfl
  have cs3 := bxc Xs.out 3 _ rfl
  have cs4 := bxc Xs.out 4 _ rfl
  have cs5 := bxc Xs.out 5 _ rfl
  have cs6 := bxc Xs.out 6 _ rfl
  have cs7 := bxc Xs.out 7 _ rfl
  have cs8 := bxc Xs.out 8 _ rfl
  have cs9 := bxc Xs.out 9 _ rfl
  have cs10 := bxc Xs.out 10 _ rfl
  have cs11 := bxc Xs.out 11 _ rfl
  have cs12 := bxc Xs.out 12 _ rfl
  have cs13 := bxc Xs.out 13 _ rfl
  go_wp2_with fail
  clear ls cs0 cs1 cs2 cs3 cs4 cs5 cs6 cs7 cs8 cs9 cs10 cs11 cs12 cs13
  generalize (w.alloc (.cells #[.slice P g cg, .slice A n c, .slice Z m cm, .slice Y p cp, .int .i64 D.cost.a, .int .i64 D.cost.b, .int .i64 D.cost.c, .int .i64 D.cost.d, .int .i64 D.bud.a, .int .i64 D.bud.b, .int .i64 D.bud.c, .int .i64 D.bud.d, .int .i64 D.floor, .slice Q q cq] 44)).alloc (.cells #[.int .i64 0, .int .i64 0, .int .i64 0, .int .i64 0] 42) = w0 at *
  refine (IsServer_any P A Z Y Q g cg n c m cm p cp q cq D _ HV.out.hcp HV.out.hcq HV.out.sur HV.out.plan HV.out.asked).mono ?_
  rintro e w1 ⟨rfl, b1⟩
  replace Xs := Lib.hid (bxb Xs.out b1)
  replace Xr := Lib.hid (bxb Xr.out b1)
  replace HB := Lib.hid (HB.out.trans (b1.mono HB.out.size))
  replace HV := Lib.hid (HV.out.below b1)
  clear b1
  cases hs : svB D
  · have R := Lib.hid (ansO_no hs)
    clear hs
    have s1 := HB.out.size
    have lr := lt_of_block Xr.out
    have cr0 := bxc Xr.out 0 _ rfl
    have cr1 := bxc Xr.out 1 _ rfl
    have cr2 := bxc Xr.out 2 _ rfl
    have cr3 := bxc Xr.out 3 _ rfl
    have fr0 := bxf Xr.out 0
    have fr1 := bxf Xr.out 1
    have fr2 := bxf Xr.out 2
    have fr3 := bxf Xr.out 3
    have y4 := store_four Xr.out (.int .i64 0) (.int .i64 0) (.int .i64 0) (.int .i64 0)
    have e0 := bxc y4 0 _ rfl
    have e1 := bxc y4 1 _ rfl
    have e2 := bxc y4 2 _ rfl
    have e3 := bxc y4 3 _ rfl
    clear y4 Xs Xr HV
    go_wp2
    exact bodyPost_ret (v := .tuple #[.agg #[.int .i64 0, .int .i64 0, .int .i64 0, .int .i64 0], .bool false]) (by simp [results, Tryz.results16, go_sem, e0, e1, e2, e3]) rfl ⟨by rw [R.out]; rfl, below_four HB.out (by omega)⟩
  have HS := Lib.hid hs
  clear hs
  have HA := Lib.hid (ansO_yes HS.out HQL.out)
  have ls := lt_of_block Xs.out
  have cs0 := bxc Xs.out 0 _ rfl
  have cs1 := bxc Xs.out 1 _ rfl
  have cs2 := bxc Xs.out 2 _ rfl
  have cs3 := bxc Xs.out 3 _ rfl
  have cs4 := bxc Xs.out 4 _ rfl
  have cs5 := bxc Xs.out 5 _ rfl
  have cs6 := bxc Xs.out 6 _ rfl
  have cs7 := bxc Xs.out 7 _ rfl
  have cs8 := bxc Xs.out 8 _ rfl
  have cs9 := bxc Xs.out 9 _ rfl
  have cs10 := bxc Xs.out 10 _ rfl
  have cs11 := bxc Xs.out 11 _ rfl
  have cs12 := bxc Xs.out 12 _ rfl
  have cs13 := bxc Xs.out 13 _ rfl
  go_wp2_with fail
  clear ls cs0 cs1 cs2 cs3 cs4 cs5 cs6 cs7 cs8 cs9 cs10 cs11 cs12 cs13
  cases ho : ansO D with
  | none =>
    have HO := Lib.hid (HA.out.trans ho)
    have HAN := Lib.hid ho
    clear ho HA
    refine (costOf_any D.cost q none _ (by omega) (sv_los HS.out).1 HO.out).mono ?_
    rintro e w2 ⟨he, b2⟩
    obtain rfl : e = .returned (.tuple #[.agg #[.int .i64 0, .int .i64 0, .int .i64 0, .int .i64 0], .bool false]) := he
    replace Xs := Lib.hid (bxb Xs.out b2)
    replace Xr := Lib.hid (bxb Xr.out b2)
    replace HB := Lib.hid (HB.out.trans (b2.mono HB.out.size))
    replace HV := Lib.hid (HV.out.below b2)
    clear b2
    have s1 := HB.out.size
    have lr := lt_of_block Xr.out
    have cr0 := bxc Xr.out 0 _ rfl
    have cr1 := bxc Xr.out 1 _ rfl
    have cr2 := bxc Xr.out 2 _ rfl
    have cr3 := bxc Xr.out 3 _ rfl
    have fr0 := bxf Xr.out 0
    have fr1 := bxf Xr.out 1
    have fr2 := bxf Xr.out 2
    have fr3 := bxf Xr.out 3
    have y4 := store_four Xr.out (.int .i64 0) (.int .i64 0) (.int .i64 0) (.int .i64 0)
    have e0 := bxc y4 0 _ rfl
    have e1 := bxc y4 1 _ rfl
    have e2 := bxc y4 2 _ rfl
    have e3 := bxc y4 3 _ rfl
    clear y4 Xs Xr HV
    go_wp2
    exact bodyPost_ret (v := .tuple #[.agg #[.int .i64 0, .int .i64 0, .int .i64 0, .int .i64 0], .bool false]) (by simp [results, Tryz.results16, go_sem, e0, e1, e2, e3]) rfl ⟨by rw [HAN.out]; rfl, below_four HB.out (by omega)⟩
  | some z =>
    have HO := Lib.hid (HA.out.trans ho)
    have HAN := Lib.hid ho
    clear ho HA
    refine (costOf_any D.cost q (some z) _ (by omega) (sv_los HS.out).1 HO.out).mono ?_
    rintro e w2 ⟨he, b2⟩
    obtain rfl : e = .returned (.tuple #[.agg #[.int .i64 z.a, .int .i64 z.b, .int .i64 z.c, .int .i64 z.d], .bool true]) := he
    replace Xs := Lib.hid (bxb Xs.out b2)
    replace Xr := Lib.hid (bxb Xr.out b2)
    replace HB := Lib.hid (HB.out.trans (b2.mono HB.out.size))
    replace HV := Lib.hid (HV.out.below b2)
    clear b2
    have s1 := HB.out.size
    have lr := lt_of_block Xr.out
    have cr0 := bxc Xr.out 0 _ rfl
    have cr1 := bxc Xr.out 1 _ rfl
    have cr2 := bxc Xr.out 2 _ rfl
    have cr3 := bxc Xr.out 3 _ rfl
    have fr0 := bxf Xr.out 0
    have fr1 := bxf Xr.out 1
    have fr2 := bxf Xr.out 2
    have fr3 := bxf Xr.out 3
    have y4 := store_four Xr.out (.int .i64 z.a) (.int .i64 z.b) (.int .i64 z.c) (.int .i64 z.d)
    have e0 := bxc y4 0 _ rfl
    have e1 := bxc y4 1 _ rfl
    have e2 := bxc y4 2 _ rfl
    have e3 := bxc y4 3 _ rfl
    clear y4 Xs Xr HV
    go_wp2
    exact bodyPost_ret (v := .tuple #[.agg #[.int .i64 z.a, .int .i64 z.b, .int .i64 z.c, .int .i64 z.d], .bool true]) (by simp [results, Tryz.results16, go_sem, e0, e1, e2, e3]) rfl ⟨by rw [HAN.out]; rfl, below_four HB.out (by omega)⟩
end

section
open Go.RowKit
end
end Go.Proofs.YtfanpbfmnckmnaaGreat
