/- OpenTables, of the program and of the reference; printed by gpo.py. -/
import Derived.Test.YtfanpbfmnckmnaaGreatPubA
import Derived.Test.YtfanpbfmnckmnaaGreatClass
namespace Go.Proofs.YtfanpbfmnckmnaaGreat
open Go.RowKit

/-- The open tables of a server. -/
def opP (D : SvD) (i : Nat) : Bool := codeV D D.asked (tX D.plan i) == 0
def opV (D : SvD) : List Int := if svB D = true then linkK (opP D) D.plan.length else []
theorem opV_no {D : SvD} (h : svB D = false) : opV D = [] := by unfold opV; rw [if_neg (by rw [h]; simp)]
theorem opV_yes {D : SvD} (h : svB D = true) {p : Nat} (hp : D.plan.length = p) : opV D = linkK (opP D) p := by unfold opV; rw [if_pos h, hp]
theorem opV_len (D : SvD) : (opV D).length ≤ D.plan.length := by
  unfold opV
  split
  · exact linkK_len _ _
  · simp

set_option maxRecDepth 100000 in
set_option maxHeartbeats 2000000 in
theorem implOpenTables_law (P A Z Y Q : Option Addr) (g cg n c m cm p cp q cq : Nat) (D : SvD) (w : World) (h : SvR w P A Z Y Q g n c m p cp q cq D) :
    Calls Tryz.prog 26 #[.agg #[.slice P g cg, .slice A n c, .slice Z m cm, .slice Y p cp, .int .i64 D.cost.a, .int .i64 D.cost.b, .int .i64 D.cost.c, .int .i64 D.cost.d, .int .i64 D.bud.a, .int .i64 D.bud.b, .int .i64 D.bud.c, .int .i64 D.bud.d, .int .i64 D.floor, .slice Q q cq]] w (RetInts w (opV D) (svB D)) := by
  have b0 := below_new w (.cells #[.slice P g cg, .slice A n c, .slice Z m cm, .slice Y p cp, .int .i64 D.cost.a, .int .i64 D.cost.b, .int .i64 D.cost.c, .int .i64 D.cost.d, .int .i64 D.bud.a, .int .i64 D.bud.b, .int .i64 D.bud.c, .int .i64 D.bud.d, .int .i64 D.floor, .slice Q q cq] 44)
  have Xs := Lib.hid (box_new w #[.slice P g cg, .slice A n c, .slice Z m cm, .slice Y p cp, .int .i64 D.cost.a, .int .i64 D.cost.b, .int .i64 D.cost.c, .int .i64 D.cost.d, .int .i64 D.bud.a, .int .i64 D.bud.b, .int .i64 D.bud.c, .int .i64 D.bud.d, .int .i64 D.floor, .slice Q q cq] 44)
  have HB := Lib.hid b0
  have HV := Lib.hid (h.below b0)
  have hpb := h.plan.bd
  have HPL := Lib.hid h.plan.len
  clear b0 h
  go_enter Tryz.func26, Tryz.ntmps26
  have ls := lt_of_block Xs.out
  have cs0 := box_cell Xs.out 0 _ rfl
  have cs1 := box_cell Xs.out 1 _ rfl
  have cs2 := box_cell Xs.out 2 _ rfl
  have cs3 := box_cell Xs.out 3 _ rfl
  have cs4 := box_cell Xs.out 4 _ rfl
  have cs5 := box_cell Xs.out 5 _ rfl
  have cs6 := box_cell Xs.out 6 _ rfl
  have cs7 := box_cell Xs.out 7 _ rfl
  have cs8 := box_cell Xs.out 8 _ rfl
  have cs9 := box_cell Xs.out 9 _ rfl
  have cs10 := box_cell Xs.out 10 _ rfl
  have cs11 := box_cell Xs.out 11 _ rfl
  have cs12 := box_cell Xs.out 12 _ rfl
  have cs13 := box_cell Xs.out 13 _ rfl
  go_wp2_with fail
  clear ls cs0 cs1 cs2 cs3 cs4 cs5 cs6 cs7 cs8 cs9 cs10 cs11 cs12 cs13
  generalize w.alloc (.cells #[.slice P g cg, .slice A n c, .slice Z m cm, .slice Y p cp, .int .i64 D.cost.a, .int .i64 D.cost.b, .int .i64 D.cost.c, .int .i64 D.cost.d, .int .i64 D.bud.a, .int .i64 D.bud.b, .int .i64 D.bud.c, .int .i64 D.bud.d, .int .i64 D.floor, .slice Q q cq] 44) = w0 at *
  refine (IsServer_any P A Z Y Q g cg n c m cm p cp q cq D _ HV.out.hcp HV.out.hcq HV.out.sur HV.out.plan HV.out.asked).mono ?_
  rintro e w1 ⟨rfl, b1⟩
  replace Xs := Lib.hid (box_below Xs.out b1)
  replace HB := Lib.hid (HB.out.trans (b1.mono HB.out.size))
  replace HV := Lib.hid (HV.out.below b1)
  clear b1
  cases hs : svB D
  · have R := Lib.hid (opV_no hs)
    have HF := Lib.hid hs
    clear hs
    go_wp2
    go_ret2
    rw [R.out, HF.out]
    exact ⟨none, 0, rfl, OwnI.nil_, HB.out⟩
  have HS := Lib.hid hs
  clear hs
  have R := Lib.hid (opV_yes HS.out HPL.out)
  have s1 := HB.out.size
  have HPD := Lib.hid (show ∀ j, opP D j = (codeV D D.asked (tX D.plan j) == 0) from fun _ => rfl)
  have ls := lt_of_block Xs.out
  have cs3 := box_cell Xs.out 3 _ rfl
  go_wp2
  clear ls cs3
  go_loopw [4, 13] (fun a i wr => ∃ (j : Nat) (B2 : Option Addr) (c2 : Nat), j ≤ p ∧ i = .int .i64 j ∧ a = .slice B2 (linkK (opP D) j).length c2 ∧ Own wr w1.heap.size B2 (linkK (opP D) j).length c2 (linkK (opP D) j) ∧ Below w1.heap.size w1 wr) (fun _ i _ => p - (intOf i).toNat)
  case atStart => exact ⟨0, none, 0, Nat.zero_le _, rfl, rfl, Own.nil_, Below.refl _ _⟩
  case round =>
    obtain ⟨j, B2, c2, hj, rfl, rfl, hown, hbw⟩ := hrel
    have hkl := linkK_len (opP D) j
    by_cases hlt : j < p
    · obtain ⟨ad, rfl, V', m', d', U', k', e', c0, c1, c2', c3, hu⟩ := (HV.out.plan.below hbw).at_ hlt
      have bj := below_new wr (.cells #[.int .i64 (tX D.plan j).lv, .slice V' m' d', .slice U' k' e', .int .i64 (tX D.plan j).sum] 56)
      have XN := Lib.hid (box_new wr #[.int .i64 (tX D.plan j).lv, .slice V' m' d', .slice U' k' e', .int .i64 (tX D.plan j).sum] 56)
      have HU := Lib.hid (hu.below bj)
      have XS := Lib.hid (box_below (box_below Xs.out hbw) bj)
      have HO := Lib.hid (hown.below bj)
      have HW := Lib.hid (hbw.trans (bj.mono hbw.size))
      clear hu bj hbw hown
      have ls := lt_of_block XS.out
      have ln := lt_of_block XN.out
      have qs0 := box_cell XS.out 0 _ rfl
      have qs1 := box_cell XS.out 1 _ rfl
      have qs2 := box_cell XS.out 2 _ rfl
      have qs3 := box_cell XS.out 3 _ rfl
      have qs4 := box_cell XS.out 4 _ rfl
      have qs5 := box_cell XS.out 5 _ rfl
      have qs6 := box_cell XS.out 6 _ rfl
      have qs7 := box_cell XS.out 7 _ rfl
      have qs8 := box_cell XS.out 8 _ rfl
      have qs9 := box_cell XS.out 9 _ rfl
      have qs10 := box_cell XS.out 10 _ rfl
      have qs11 := box_cell XS.out 11 _ rfl
      have qs12 := box_cell XS.out 12 _ rfl
      have qs13 := box_cell XS.out 13 _ rfl
      have qn0 := box_cell XN.out 0 _ rfl
      have qn1 := box_cell XN.out 1 _ rfl
      have qn2 := box_cell XN.out 2 _ rfl
      have qn3 := box_cell XN.out 3 _ rfl
      go_wp2_with fail
      clear ls ln c0 c1 c2' c3 qs0 qs1 qs2 qs3 qs4 qs5 qs6 qs7 qs8 qs9 qs10 qs11 qs12 qs13 qn0 qn1 qn2 qn3
      generalize wr.alloc (.cells #[.int .i64 (tX D.plan j).lv, .slice V' m' d', .slice U' k' e', .int .i64 (tX D.plan j).sum] 56) = w4 at *
      refine (queryCode_any P A Z (some ad) Q g cg n c m cm p cp q cq D V' U' m' d' k' e' (tX D.plan j) D.asked _ (sv_ok HS.out) (sv_los HS.out).1 (sv_los HS.out).2 (sv_asks HS.out HV.out.asked.len) (HV.out.sur.below HW.out) HU.out (HV.out.plan.below HW.out) (HV.out.asked.below HW.out)).mono ?_
      rintro e w5 ⟨rfl, b5⟩
      have hbw5 := HW.out.trans (b5.mono HW.out.size)
      have hown5 := HO.out.below b5
      have hsz := hbw5.size
      clear b5 HW HO XS XN HU
      have HPj := Lib.hid (HPD.out j)
      generalize codeV D D.asked (tX D.plan j) = cd at *
      by_cases h0 : cd = 0
      · have hq : (cd == 0) = true := by rw [h0]; rfl
        have HJ := Lib.hid (linkK_yes (p := opP D) (k := j) (HPj.out.trans hq))
        have HJ2 := Lib.hid (show (linkK (opP D) (j + 1)).length = (linkK (opP D) j).length + 1 by rw [HJ.out]; simp)
        clear h0
        generalize linkK (opP D) j = K0 at *
        generalize K0.length = k0 at *
        go_wp2_with (at_builtin; refine wp_app1 (v := (j : Int)) rfl _ _ rfl w1.heap.size B2 k0 c2 K0 rfl hown5 _ rfl rfl (by omega) hsz ?_; intro A3 c3 w6 hown6 hg6 _)
        have hb6 := Lib.hid (below_write hbw5 hg6 hsz (fun k hk => (hown5.row_ge k hk).1))
        rw [← HJ.out] at hown6
        have HO6 := Lib.hid hown6
        clear hown5 hbw5 hg6 hown6
        go_wp2
        go_roundw
        case rel => exact ⟨j + 1, A3, c3, by omega, by go_num, by rw [HJ2.out], by rw [HJ2.out]; exact HO6.out, hb6.out⟩
        case measure => simp [intOf]; omega
      · have hq : (cd == 0) = false := by rw [beq_eq_false_iff_ne]; exact h0
        have HJ := Lib.hid (linkK_no (p := opP D) (k := j) (HPj.out.trans hq))
        clear h0
        go_wp2
        go_roundw
        case rel => exact ⟨j + 1, B2, c2, by omega, by go_num, by rw [HJ.out], by rw [HJ.out]; exact hown5, hbw5⟩
        case measure => simp [intOf]; omega
    · obtain rfl : p = j := by omega
      have HO := Lib.hid hown
      have HW := Lib.hid hbw
      clear hown hbw
      go_wp2
      go_ret2
      rw [R.out, HS.out]
      exact ⟨B2, c2, rfl, (OwnI.of_own HO.out (by omega)).fit s1, HB.out.trans (HW.out.mono s1)⟩

set_option maxRecDepth 100000 in
set_option maxHeartbeats 2000000 in
theorem specOpenTables_law (P A Z Y Q : Option Addr) (g cg n c m cm p cp q cq : Nat) (D : SvD) (w : World) (h : SvR w P A Z Y Q g n c m p cp q cq D) :
    Calls Tryz.prog 25 #[.agg #[.slice P g cg, .slice A n c, .slice Z m cm, .slice Y p cp, .int .i64 D.cost.a, .int .i64 D.cost.b, .int .i64 D.cost.c, .int .i64 D.cost.d, .int .i64 D.bud.a, .int .i64 D.bud.b, .int .i64 D.bud.c, .int .i64 D.bud.d, .int .i64 D.floor, .slice Q q cq]] w (RetInts w (opV D) (svB D)) := by
  have b0 := below_new w (.cells #[.slice P g cg, .slice A n c, .slice Z m cm, .slice Y p cp, .int .i64 D.cost.a, .int .i64 D.cost.b, .int .i64 D.cost.c, .int .i64 D.cost.d, .int .i64 D.bud.a, .int .i64 D.bud.b, .int .i64 D.bud.c, .int .i64 D.bud.d, .int .i64 D.floor, .slice Q q cq] 44)
  have Xs := Lib.hid (box_new w #[.slice P g cg, .slice A n c, .slice Z m cm, .slice Y p cp, .int .i64 D.cost.a, .int .i64 D.cost.b, .int .i64 D.cost.c, .int .i64 D.cost.d, .int .i64 D.bud.a, .int .i64 D.bud.b, .int .i64 D.bud.c, .int .i64 D.bud.d, .int .i64 D.floor, .slice Q q cq] 44)
  have HB := Lib.hid b0
  have HV := Lib.hid (h.below b0)
  have hpb := h.plan.bd
  have HPL := Lib.hid h.plan.len
  clear b0 h
  go_enter Tryz.func25, Tryz.ntmps25
  have ls := lt_of_block Xs.out
  have cs0 := box_cell Xs.out 0 _ rfl
  have cs1 := box_cell Xs.out 1 _ rfl
  have cs2 := box_cell Xs.out 2 _ rfl
  have cs3 := box_cell Xs.out 3 _ rfl
  have cs4 := box_cell Xs.out 4 _ rfl
  have cs5 := box_cell Xs.out 5 _ rfl
  have cs6 := box_cell Xs.out 6 _ rfl
  have cs7 := box_cell Xs.out 7 _ rfl
  have cs8 := box_cell Xs.out 8 _ rfl
  have cs9 := box_cell Xs.out 9 _ rfl
  have cs10 := box_cell Xs.out 10 _ rfl
  have cs11 := box_cell Xs.out 11 _ rfl
  have cs12 := box_cell Xs.out 12 _ rfl
  have cs13 := box_cell Xs.out 13 _ rfl
  go_wp2_with fail
  clear ls cs0 cs1 cs2 cs3 cs4 cs5 cs6 cs7 cs8 cs9 cs10 cs11 cs12 cs13
  generalize w.alloc (.cells #[.slice P g cg, .slice A n c, .slice Z m cm, .slice Y p cp, .int .i64 D.cost.a, .int .i64 D.cost.b, .int .i64 D.cost.c, .int .i64 D.cost.d, .int .i64 D.bud.a, .int .i64 D.bud.b, .int .i64 D.bud.c, .int .i64 D.bud.d, .int .i64 D.floor, .slice Q q cq] 44) = w0 at *
  refine (jGood_any P A Z Y Q g cg n c m cm p cp q cq D _ HV.out.hcp HV.out.hcq HV.out.sur HV.out.plan HV.out.asked).mono ?_
  rintro e w1 ⟨rfl, b1⟩
  replace Xs := Lib.hid (box_below Xs.out b1)
  replace HB := Lib.hid (HB.out.trans (b1.mono HB.out.size))
  replace HV := Lib.hid (HV.out.below b1)
  clear b1
  cases hs : svB D
  · have R := Lib.hid (opV_no hs)
    have HF := Lib.hid hs
    clear hs
    go_wp2
    go_ret2
    rw [R.out, HF.out]
    exact ⟨none, 0, rfl, OwnI.nil_, HB.out⟩
  have HS := Lib.hid hs
  clear hs
  have R := Lib.hid (opV_yes HS.out HPL.out)
  have s1 := HB.out.size
  have HPD := Lib.hid (show ∀ j, opP D j = (codeV D D.asked (tX D.plan j) == 0) from fun _ => rfl)
  have ls := lt_of_block Xs.out
  have cs3 := box_cell Xs.out 3 _ rfl
  go_wp2
  clear ls cs3
  go_loopw [4, 13] (fun a i wr => ∃ (j : Nat) (B2 : Option Addr) (c2 : Nat), j ≤ p ∧ i = .int .i64 j ∧ a = .slice B2 (linkK (opP D) j).length c2 ∧ Own wr w1.heap.size B2 (linkK (opP D) j).length c2 (linkK (opP D) j) ∧ Below w1.heap.size w1 wr) (fun _ i _ => p - (intOf i).toNat)
  case atStart => exact ⟨0, none, 0, Nat.zero_le _, rfl, rfl, Own.nil_, Below.refl _ _⟩
  case round =>
    obtain ⟨j, B2, c2, hj, rfl, rfl, hown, hbw⟩ := hrel
    have hkl := linkK_len (opP D) j
    by_cases hlt : j < p
    · obtain ⟨ad, rfl, V', m', d', U', k', e', c0, c1, c2', c3, hu⟩ := (HV.out.plan.below hbw).at_ hlt
      have bj := below_new wr (.cells #[.int .i64 (tX D.plan j).lv, .slice V' m' d', .slice U' k' e', .int .i64 (tX D.plan j).sum] 56)
      have XN := Lib.hid (box_new wr #[.int .i64 (tX D.plan j).lv, .slice V' m' d', .slice U' k' e', .int .i64 (tX D.plan j).sum] 56)
      have HU := Lib.hid (hu.below bj)
      have XS := Lib.hid (box_below (box_below Xs.out hbw) bj)
      have HO := Lib.hid (hown.below bj)
      have HW := Lib.hid (hbw.trans (bj.mono hbw.size))
      clear hu bj hbw hown
      have ls := lt_of_block XS.out
      have ln := lt_of_block XN.out
      have qs0 := box_cell XS.out 0 _ rfl
      have qs1 := box_cell XS.out 1 _ rfl
      have qs2 := box_cell XS.out 2 _ rfl
      have qs3 := box_cell XS.out 3 _ rfl
      have qs4 := box_cell XS.out 4 _ rfl
      have qs5 := box_cell XS.out 5 _ rfl
      have qs6 := box_cell XS.out 6 _ rfl
      have qs7 := box_cell XS.out 7 _ rfl
      have qs8 := box_cell XS.out 8 _ rfl
      have qs9 := box_cell XS.out 9 _ rfl
      have qs10 := box_cell XS.out 10 _ rfl
      have qs11 := box_cell XS.out 11 _ rfl
      have qs12 := box_cell XS.out 12 _ rfl
      have qs13 := box_cell XS.out 13 _ rfl
      have qn0 := box_cell XN.out 0 _ rfl
      have qn1 := box_cell XN.out 1 _ rfl
      have qn2 := box_cell XN.out 2 _ rfl
      have qn3 := box_cell XN.out 3 _ rfl
      go_wp2_with fail
      clear ls ln c0 c1 c2' c3 qs0 qs1 qs2 qs3 qs4 qs5 qs6 qs7 qs8 qs9 qs10 qs11 qs12 qs13 qn0 qn1 qn2 qn3
      generalize wr.alloc (.cells #[.int .i64 (tX D.plan j).lv, .slice V' m' d', .slice U' k' e', .int .i64 (tX D.plan j).sum] 56) = w4 at *
      refine (jCode_any P A Z (some ad) Q g cg n c m cm p cp q cq D V' U' Q m' d' k' e' q cq (tX D.plan j) D.asked _ (sv_ok HS.out) (sv_los HS.out).1 (sv_los HS.out).2 (sv_asks HS.out HV.out.asked.len) (HV.out.sur.below HW.out) HU.out (HV.out.plan.below HW.out) (HV.out.asked.below HW.out)).mono ?_
      rintro e w5 ⟨rfl, b5⟩
      have hbw5 := HW.out.trans (b5.mono HW.out.size)
      have hown5 := HO.out.below b5
      have hsz := hbw5.size
      clear b5 HW HO XS XN HU
      have HPj := Lib.hid (HPD.out j)
      generalize codeV D D.asked (tX D.plan j) = cd at *
      by_cases h0 : cd = 0
      · have hq : (cd == 0) = true := by rw [h0]; rfl
        have HJ := Lib.hid (linkK_yes (p := opP D) (k := j) (HPj.out.trans hq))
        have HJ2 := Lib.hid (show (linkK (opP D) (j + 1)).length = (linkK (opP D) j).length + 1 by rw [HJ.out]; simp)
        clear h0
        generalize linkK (opP D) j = K0 at *
        generalize K0.length = k0 at *
        go_wp2_with (at_builtin; refine wp_app1 (v := (j : Int)) rfl _ _ rfl w1.heap.size B2 k0 c2 K0 rfl hown5 _ rfl rfl (by omega) hsz ?_; intro A3 c3 w6 hown6 hg6 _)
        have hb6 := Lib.hid (below_write hbw5 hg6 hsz (fun k hk => (hown5.row_ge k hk).1))
        rw [← HJ.out] at hown6
        have HO6 := Lib.hid hown6
        clear hown5 hbw5 hg6 hown6
        go_wp2
        go_roundw
        case rel => exact ⟨j + 1, A3, c3, by omega, by go_num, by rw [HJ2.out], by rw [HJ2.out]; exact HO6.out, hb6.out⟩
        case measure => simp [intOf]; omega
      · have hq : (cd == 0) = false := by rw [beq_eq_false_iff_ne]; exact h0
        have HJ := Lib.hid (linkK_no (p := opP D) (k := j) (HPj.out.trans hq))
        clear h0
        go_wp2
        go_roundw
        case rel => exact ⟨j + 1, B2, c2, by omega, by go_num, by rw [HJ.out], by rw [HJ.out]; exact hown5, hbw5⟩
        case measure => simp [intOf]; omega
    · obtain rfl : p = j := by omega
      have HO := Lib.hid hown
      have HW := Lib.hid hbw
      clear hown hbw
      go_wp2
      go_ret2
      rw [R.out, HS.out]
      exact ⟨B2, c2, rfl, (OwnI.of_own HO.out (by omega)).fit s1, HB.out.trans (HW.out.mono s1)⟩
end Go.Proofs.YtfanpbfmnckmnaaGreat
