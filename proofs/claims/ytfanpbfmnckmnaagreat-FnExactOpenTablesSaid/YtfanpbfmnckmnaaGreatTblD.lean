/- Tables: the tests of the program and of the reference; printed by gtd.py. -/
import Derived.Test.YtfanpbfmnckmnaaGreatTblC
namespace Go.Proofs.YtfanpbfmnckmnaaGreat
open Go.RowKit

/-- Geography, schema and table are valid. -/
def allB (ps : List Int) (vs : List (ByteArray × Int)) (t : TabD) : Bool := geoB ps && (schB vs && tabB ps vs t)
theorem allB_1 {ps : List Int} {vs : List (ByteArray × Int)} {t : TabD} (h : geoB ps = false) : false = allB ps vs t := by unfold allB; rw [h]; rfl
theorem allB_2 {ps : List Int} {vs : List (ByteArray × Int)} {t : TabD} (h : schB vs = false) : false = allB ps vs t := by unfold allB; rw [h]; simp
theorem allB_3 {ps : List Int} {vs : List (ByteArray × Int)} {t : TabD} (h : tabB ps vs t = false) : false = allB ps vs t := by unfold allB; rw [h]; simp
theorem allB_4 {ps : List Int} {vs : List (ByteArray × Int)} {t : TabD} (h1 : geoB ps = true) (h2 : schB vs = true) (h : tabB ps vs t = true) : true = allB ps vs t := by unfold allB; rw [h1, h2, h]; rfl
theorem risB_lenT {xs : List Int} {n : Nat} {vs : List (ByteArray × Int)} (h : vs.length = n) (h2 : risB xs n = true) : risB xs vs.length = true := by rw [h]; exact h2

set_option maxRecDepth 100000 in
set_option maxHeartbeats 2000000 in
theorem isTable_any (P A V U : Option Addr) (g cg n c m d k e : Nat) (ps : List Int) (t : TabD) (vs : List (ByteArray × Int)) (w : World) (hg : GeoOk ps g) (hs : schB vs = true) (hX : IntR w P g ps) (hS : SchR w A n c vs) (hT : TabR w V m U k t) :
    Calls Tryz.prog 76 #[.agg #[.slice P g cg], .slice A n c, .agg #[.int .i64 t.lv, .slice V m d, .slice U k e, .int .i64 t.sum]] w fun e w' => e = .returned (.bool (tabB ps vs t)) ∧ Below w.heap.size w w' := by
  have hl := Lib.hid hS.len
  have hn := hS.bd
  have HG := Lib.hid hg
  have hgl := Lib.hid hg.len
  have HL := Lib.hid (hS.lev hs)
  clear hg
  cases h0 : risB t.vars n
  · have R := Lib.hid (tabB_1 (ps := ps) (t := t) (risB_lenD hl.out h0)).symm
    have H0 := Lib.hid h0
    clear h0
    obtain ⟨b0, xg, xt⟩ := box_two w #[.slice P g cg] #[.int .i64 t.lv, .slice V m d, .slice U k e, .int .i64 t.sum] 36 56
    replace hX := hX.below b0
    replace hS := hS.below b0
    replace hT := hT.below b0
    have HB := Lib.hid b0
    have Xg := Lib.hid xg
    have Xt := Lib.hid xt
    clear b0 xg xt
    go_enter Tryz.func76, Tryz.ntmps76
    have lt := lt_of_block Xt.out
    have ct1 := box_cell Xt.out 1 _ rfl
    go_wp2_with fail
    clear lt ct1
    generalize (w.alloc (.cells #[.slice P g cg] 36)).alloc (.cells #[.int .i64 t.lv, .slice V m d, .slice U k e, .int .i64 t.sum] 56) = w0 at *
    refine (areVars_any _ _ n _ m _ t.vars _ hS.bd hT.v).mono ?_
    rintro e w1 ⟨rfl, rfl⟩
    rw [H0.out]
    go_wp2
    go_ret
    exact ⟨ret_bool R.out, HB.out⟩
  have H0 := Lib.hid h0
  have HK := Lib.hid (show PartOk vs t.vars n from ⟨hS.len, hs, h0⟩)
  clear h0
  cases h1 : whB vs t.wh
  · have R := Lib.hid (tabB_2 (ps := ps) (t := t) h1).symm
    have H1 := Lib.hid h1
    clear h1
    obtain ⟨b0, xg, xt⟩ := box_two w #[.slice P g cg] #[.int .i64 t.lv, .slice V m d, .slice U k e, .int .i64 t.sum] 36 56
    replace hX := hX.below b0
    replace hS := hS.below b0
    replace hT := hT.below b0
    have HB := Lib.hid b0
    have Xg := Lib.hid xg
    have Xt := Lib.hid xt
    clear b0 xg xt
    go_enter Tryz.func76, Tryz.ntmps76
    have lt := lt_of_block Xt.out
    have ct1 := box_cell Xt.out 1 _ rfl
    go_wp2_with fail
    clear lt ct1
    generalize (w.alloc (.cells #[.slice P g cg] 36)).alloc (.cells #[.int .i64 t.lv, .slice V m d, .slice U k e, .int .i64 t.sum] 56) = w0 at *
    refine (areVars_any _ _ n _ m _ t.vars _ hS.bd hT.v).mono ?_
    rintro e w1 ⟨rfl, rfl⟩
    rw [H0.out]
    have lt := lt_of_block Xt.out
    have ct2 := box_cell Xt.out 2 _ rfl
    go_wp2_with fail
    clear lt ct2
    refine (isWhere_any _ _ n _ k _ vs t.wh _ hS hT.u HL.out).mono ?_
    rintro e w2 ⟨rfl, b2⟩
    rw [H1.out]
    replace Xg := Lib.hid (box_below Xg.out b2)
    replace Xt := Lib.hid (box_below Xt.out b2)
    replace hX := hX.below b2
    replace hS := hS.below b2
    replace hT := hT.below b2
    replace HB := Lib.hid (HB.out.trans (b2.mono HB.out.size))
    clear b2
    go_wp2
    go_ret
    exact ⟨ret_bool R.out, HB.out⟩
  have H1 := Lib.hid h1
  clear h1
  by_cases h2 : t.sum < -1
  · have R := Lib.hid (tabB_3 (ps := ps) (t := t) (inR_no (show ¬ (-1 ≤ t.sum ∧ t.sum ≤ (vs.length : Int) - 1) by rw [hl.out]; omega))).symm
    obtain ⟨b0, xg, xt⟩ := box_two w #[.slice P g cg] #[.int .i64 t.lv, .slice V m d, .slice U k e, .int .i64 t.sum] 36 56
    replace hX := hX.below b0
    replace hS := hS.below b0
    replace hT := hT.below b0
    have HB := Lib.hid b0
    have Xg := Lib.hid xg
    have Xt := Lib.hid xt
    clear b0 xg xt
    go_enter Tryz.func76, Tryz.ntmps76
    have lt := lt_of_block Xt.out
    have ct1 := box_cell Xt.out 1 _ rfl
    go_wp2_with fail
    clear lt ct1
    generalize (w.alloc (.cells #[.slice P g cg] 36)).alloc (.cells #[.int .i64 t.lv, .slice V m d, .slice U k e, .int .i64 t.sum] 56) = w0 at *
    refine (areVars_any _ _ n _ m _ t.vars _ hS.bd hT.v).mono ?_
    rintro e w1 ⟨rfl, rfl⟩
    rw [H0.out]
    have lt := lt_of_block Xt.out
    have ct2 := box_cell Xt.out 2 _ rfl
    go_wp2_with fail
    clear lt ct2
    refine (isWhere_any _ _ n _ k _ vs t.wh _ hS hT.u HL.out).mono ?_
    rintro e w2 ⟨rfl, b2⟩
    rw [H1.out]
    replace Xg := Lib.hid (box_below Xg.out b2)
    replace Xt := Lib.hid (box_below Xt.out b2)
    replace hX := hX.below b2
    replace hS := hS.below b2
    replace hT := hT.below b2
    replace HB := Lib.hid (HB.out.trans (b2.mono HB.out.size))
    clear b2
    have lt := lt_of_block Xt.out
    have ct3 := box_cell Xt.out 3 _ rfl
    go_wp2
    go_ret
    exact ⟨ret_bool R.out, HB.out⟩
  have g1 := h2
  clear h2
  by_cases h2 : (n : Int) ≤ t.sum
  · have R := Lib.hid (tabB_3 (ps := ps) (t := t) (inR_no (show ¬ (-1 ≤ t.sum ∧ t.sum ≤ (vs.length : Int) - 1) by rw [hl.out]; omega))).symm
    obtain ⟨b0, xg, xt⟩ := box_two w #[.slice P g cg] #[.int .i64 t.lv, .slice V m d, .slice U k e, .int .i64 t.sum] 36 56
    replace hX := hX.below b0
    replace hS := hS.below b0
    replace hT := hT.below b0
    have HB := Lib.hid b0
    have Xg := Lib.hid xg
    have Xt := Lib.hid xt
    clear b0 xg xt
    go_enter Tryz.func76, Tryz.ntmps76
    have lt := lt_of_block Xt.out
    have ct1 := box_cell Xt.out 1 _ rfl
    go_wp2_with fail
    clear lt ct1
    generalize (w.alloc (.cells #[.slice P g cg] 36)).alloc (.cells #[.int .i64 t.lv, .slice V m d, .slice U k e, .int .i64 t.sum] 56) = w0 at *
    refine (areVars_any _ _ n _ m _ t.vars _ hS.bd hT.v).mono ?_
    rintro e w1 ⟨rfl, rfl⟩
    rw [H0.out]
    have lt := lt_of_block Xt.out
    have ct2 := box_cell Xt.out 2 _ rfl
    go_wp2_with fail
    clear lt ct2
    refine (isWhere_any _ _ n _ k _ vs t.wh _ hS hT.u HL.out).mono ?_
    rintro e w2 ⟨rfl, b2⟩
    rw [H1.out]
    replace Xg := Lib.hid (box_below Xg.out b2)
    replace Xt := Lib.hid (box_below Xt.out b2)
    replace hX := hX.below b2
    replace hS := hS.below b2
    replace hT := hT.below b2
    replace HB := Lib.hid (HB.out.trans (b2.mono HB.out.size))
    clear b2
    have lt := lt_of_block Xt.out
    have ct3 := box_cell Xt.out 3 _ rfl
    go_wp2
    go_ret
    exact ⟨ret_bool R.out, HB.out⟩
  have g2 := h2
  clear h2
  have H2 := Lib.hid (inR_yes (show -1 ≤ t.sum by omega) (show t.sum ≤ (vs.length : Int) - 1 by rw [hl.out]; omega))
  have HC := Lib.hid (show cntV ps vs t = ((lvl ps t.lv g).length : Int) * prodN vs t.vars t.vars.length by unfold cntV; rw [hgl.out])
  have hpr := HK.out.prod
  have H4 := Lib.hid (fun (h : ¬ 0 < (lvl ps t.lv g).length) => (tabB_4 (vs := vs) (t := t) (show ¬ 0 < (lvl ps t.lv ps.length).length by rw [hgl.out]; exact h)).symm)
  have H5 := Lib.hid (fun (h : ¬ ((lvl ps t.lv g).length : Int) * prodN vs t.vars t.vars.length ≤ 600) => (tabB_5 (ps := ps) (vs := vs) (t := t) (by rw [HC.out]; exact h)).symm)
  have H6 := Lib.hid (fun (h : 0 < (lvl ps t.lv g).length) (h2 : ((lvl ps t.lv g).length : Int) * prodN vs t.vars t.vars.length ≤ 600) => (tabB_6 (ps := ps) (vs := vs) (t := t) (risB_lenT hl.out H0.out) H1.out H2.out (by rw [hgl.out]; exact h) (by rw [HC.out]; exact h2)).symm)
  have hlv := Nat.le_trans (lvl_len (ps := ps) (v := t.lv) g) HG.out.most
  clear HC H2
  have hcell := g1
  clear hcell
  obtain ⟨b0, xg, xt⟩ := box_two w #[.slice P g cg] #[.int .i64 t.lv, .slice V m d, .slice U k e, .int .i64 t.sum] 36 56
  replace hX := hX.below b0
  replace hS := hS.below b0
  replace hT := hT.below b0
  have HB := Lib.hid b0
  have Xg := Lib.hid xg
  have Xt := Lib.hid xt
  clear b0 xg xt
  go_enter Tryz.func76, Tryz.ntmps76
  have lt := lt_of_block Xt.out
  have ct1 := box_cell Xt.out 1 _ rfl
  go_wp2_with fail
  clear lt ct1
  generalize (w.alloc (.cells #[.slice P g cg] 36)).alloc (.cells #[.int .i64 t.lv, .slice V m d, .slice U k e, .int .i64 t.sum] 56) = w0 at *
  refine (areVars_any _ _ n _ m _ t.vars _ hS.bd hT.v).mono ?_
  rintro e w1 ⟨rfl, rfl⟩
  rw [H0.out]
  have lt := lt_of_block Xt.out
  have ct2 := box_cell Xt.out 2 _ rfl
  go_wp2_with fail
  clear lt ct2
  refine (isWhere_any _ _ n _ k _ vs t.wh _ hS hT.u HL.out).mono ?_
  rintro e w2 ⟨rfl, b2⟩
  rw [H1.out]
  replace Xg := Lib.hid (box_below Xg.out b2)
  replace Xt := Lib.hid (box_below Xt.out b2)
  replace hX := hX.below b2
  replace hS := hS.below b2
  replace hT := hT.below b2
  replace HB := Lib.hid (HB.out.trans (b2.mono HB.out.size))
  clear b2
  have lg := lt_of_block Xg.out
  have cg0 := box_cell Xg.out 0 _ rfl
  have lt := lt_of_block Xt.out
  have ct0 := box_cell Xt.out 0 _ rfl
  have ct1 := box_cell Xt.out 1 _ rfl
  have ct2 := box_cell Xt.out 2 _ rfl
  have ct3 := box_cell Xt.out 3 _ rfl
  go_wp2_with fail
  clear lg cg0 lt ct0 ct1 ct2 ct3
  refine (cellCount_any P A V U g cg n c m d k e ps t vs _ HG.out hX hS hT HK.out).mono ?_
  rintro e w3 ⟨rfl, b3⟩
  replace Xg := Lib.hid (box_below Xg.out b3)
  replace Xt := Lib.hid (box_below Xt.out b3)
  replace hX := hX.below b3
  replace hS := hS.below b3
  replace hT := hT.below b3
  replace HB := Lib.hid (HB.out.trans (b3.mono HB.out.size))
  clear b3
  clear hX hS hT
  generalize (lvl ps t.lv g).length = LN at *
  generalize prodN vs t.vars t.vars.length = PR at *
  have hbd := cnt_bd hlv hpr.1 hpr.2
  have hz : ¬ 0 < LN → (LN : Int) * PR = 0 := fun h => by rw [show LN = 0 by omega]; simp
  have ho : 0 < LN → 0 < (LN : Int) * PR := fun h => Int.mul_pos (by omega) (by omega)
  generalize (LN : Int) * PR = CN at *
  by_cases h7 : 0 < LN
  · have hc1 := ho h7
    have H7 := Lib.hid h7
    clear hz ho h7
    by_cases h8 : CN ≤ 600
    · have R := Lib.hid (H6.out H7.out h8)
      go_wp2
      go_ret
      exact ⟨ret_bool R.out, HB.out⟩
    · have R := Lib.hid ((decide_eq_false h8).trans (H5.out (by omega)))
      go_wp2
      go_ret
      exact ⟨ret_bool R.out, HB.out⟩
  · have R := Lib.hid (H4.out h7)
    have hc1 : ¬ 0 < CN := by rw [hz h7]; omega
    clear hz ho h7
    go_wp2
    go_ret
    exact ⟨ret_bool R.out, HB.out⟩

set_option maxRecDepth 100000 in
set_option maxHeartbeats 2000000 in
theorem uGood_any (P A V U : Option Addr) (g cg n c m d k e : Nat) (ps : List Int) (t : TabD) (vs : List (ByteArray × Int)) (w : World) (hX : IntR w P g ps) (hS : SchR w A n c vs) (hT : TabR w V m U k t) :
    Calls Tryz.prog 73 #[.agg #[.slice P g cg], .slice A n c, .agg #[.int .i64 t.lv, .slice V m d, .slice U k e, .int .i64 t.sum]] w fun e w' => e = .returned (.bool (allB ps vs t)) ∧ Below w.heap.size w w' := by
  have hl := Lib.hid hS.len
  have hn := hS.bd
  have hgl := Lib.hid hX.len
  cases ha : geoB ps
  · have R := Lib.hid (allB_1 (vs := vs) (t := t) ha)
    have HA := Lib.hid ha
    clear ha
    obtain ⟨b0, xg, xt⟩ := box_two w #[.slice P g cg] #[.int .i64 t.lv, .slice V m d, .slice U k e, .int .i64 t.sum] 36 56
    replace hX := hX.below b0
    replace hS := hS.below b0
    replace hT := hT.below b0
    have HB := Lib.hid b0
    have Xg := Lib.hid xg
    have Xt := Lib.hid xt
    clear b0 xg xt
    go_enter Tryz.func73, Tryz.ntmps73
    have lg := lt_of_block Xg.out
    have cg0 := box_cell Xg.out 0 _ rfl
    go_wp2_with fail
    clear lg cg0
    generalize (w.alloc (.cells #[.slice P g cg] 36)).alloc (.cells #[.int .i64 t.lv, .slice V m d, .slice U k e, .int .i64 t.sum] 56) = w0 at *
    refine (gGood_any P g cg ps _ hX).mono ?_
    rintro e w1 ⟨rfl, b1⟩
    rw [HA.out]
    replace Xg := Lib.hid (box_below Xg.out b1)
    replace Xt := Lib.hid (box_below Xt.out b1)
    replace hX := hX.below b1
    replace hS := hS.below b1
    replace hT := hT.below b1
    replace HB := Lib.hid (HB.out.trans (b1.mono HB.out.size))
    clear b1
    go_wp2
    go_ret
    exact ⟨ret_bool R.out, HB.out⟩
  have HA := Lib.hid ha
  have hg0 := geoB_of ha
  rw [hgl.out] at hg0
  have HG := Lib.hid hg0
  clear ha hg0
  cases hs : schB vs
  · have R := Lib.hid (allB_2 (ps := ps) (t := t) hs)
    have HS := Lib.hid hs
    clear hs
    obtain ⟨b0, xg, xt⟩ := box_two w #[.slice P g cg] #[.int .i64 t.lv, .slice V m d, .slice U k e, .int .i64 t.sum] 36 56
    replace hX := hX.below b0
    replace hS := hS.below b0
    replace hT := hT.below b0
    have HB := Lib.hid b0
    have Xg := Lib.hid xg
    have Xt := Lib.hid xt
    clear b0 xg xt
    go_enter Tryz.func73, Tryz.ntmps73
    have lg := lt_of_block Xg.out
    have cg0 := box_cell Xg.out 0 _ rfl
    go_wp2_with fail
    clear lg cg0
    generalize (w.alloc (.cells #[.slice P g cg] 36)).alloc (.cells #[.int .i64 t.lv, .slice V m d, .slice U k e, .int .i64 t.sum] 56) = w0 at *
    refine (gGood_any P g cg ps _ hX).mono ?_
    rintro e w1 ⟨rfl, b1⟩
    rw [HA.out]
    replace Xg := Lib.hid (box_below Xg.out b1)
    replace Xt := Lib.hid (box_below Xt.out b1)
    replace hX := hX.below b1
    replace hS := hS.below b1
    replace hT := hT.below b1
    replace HB := Lib.hid (HB.out.trans (b1.mono HB.out.size))
    clear b1
    go_wp2_with fail
    refine (sGood_any _ n _ vs _ hS.v hS.s hS.bd hS.cp).mono ?_
    rintro e w2 ⟨rfl, b2⟩
    rw [HS.out]
    replace Xg := Lib.hid (box_below Xg.out b2)
    replace Xt := Lib.hid (box_below Xt.out b2)
    replace hX := hX.below b2
    replace hS := hS.below b2
    replace hT := hT.below b2
    replace HB := Lib.hid (HB.out.trans (b2.mono HB.out.size))
    clear b2
    go_wp2
    go_ret
    exact ⟨ret_bool R.out, HB.out⟩
  have HS := Lib.hid hs
  have HL := Lib.hid (hS.lev hs)
  clear hs
  have hlv := Nat.le_trans (lvl_len (ps := ps) (v := t.lv) g) HG.out.most
  obtain ⟨LN, hLN⟩ : ∃ x, (lvl ps t.lv g).length = x := ⟨_, rfl⟩
  rw [hLN] at hlv
  have HLN := Lib.hid hLN
  clear hLN
  by_cases h7 : 0 < LN
  rotate_left
  · have R := Lib.hid (allB_3 (tabB_4 (ps := ps) (vs := vs) (t := t) (show ¬ 0 < (lvl ps t.lv ps.length).length by rw [hgl.out, HLN.out]; exact h7)))
    have hq : ((LN : Int) == 0) = true := by rw [beq_iff_eq]; omega
    obtain ⟨b0, xg, xt⟩ := box_two w #[.slice P g cg] #[.int .i64 t.lv, .slice V m d, .slice U k e, .int .i64 t.sum] 36 56
    replace hX := hX.below b0
    replace hS := hS.below b0
    replace hT := hT.below b0
    have HB := Lib.hid b0
    have Xg := Lib.hid xg
    have Xt := Lib.hid xt
    clear b0 xg xt
    go_enter Tryz.func73, Tryz.ntmps73
    have lg := lt_of_block Xg.out
    have cg0 := box_cell Xg.out 0 _ rfl
    go_wp2_with fail
    clear lg cg0
    generalize (w.alloc (.cells #[.slice P g cg] 36)).alloc (.cells #[.int .i64 t.lv, .slice V m d, .slice U k e, .int .i64 t.sum] 56) = w0 at *
    refine (gGood_any P g cg ps _ hX).mono ?_
    rintro e w1 ⟨rfl, b1⟩
    rw [HA.out]
    replace Xg := Lib.hid (box_below Xg.out b1)
    replace Xt := Lib.hid (box_below Xt.out b1)
    replace hX := hX.below b1
    replace hS := hS.below b1
    replace hT := hT.below b1
    replace HB := Lib.hid (HB.out.trans (b1.mono HB.out.size))
    clear b1
    go_wp2_with fail
    refine (sGood_any _ n _ vs _ hS.v hS.s hS.bd hS.cp).mono ?_
    rintro e w2 ⟨rfl, b2⟩
    rw [HS.out]
    replace Xg := Lib.hid (box_below Xg.out b2)
    replace Xt := Lib.hid (box_below Xt.out b2)
    replace hX := hX.below b2
    replace hS := hS.below b2
    replace hT := hT.below b2
    replace HB := Lib.hid (HB.out.trans (b2.mono HB.out.size))
    clear b2
    have lg := lt_of_block Xg.out
    have cg0 := box_cell Xg.out 0 _ rfl
    have lt := lt_of_block Xt.out
    have ct0 := box_cell Xt.out 0 _ rfl
    go_wp2_with fail
    clear lg cg0 lt ct0
    refine (gLevel_any P g cg ps t.lv _ hX HG.out).mono ?_
    rintro e w3 ⟨Al, cl, rfl, ol, b3⟩
    replace Xg := Lib.hid (box_below Xg.out b3)
    replace Xt := Lib.hid (box_below Xt.out b3)
    replace hX := hX.below b3
    replace hS := hS.below b3
    replace hT := hT.below b3
    replace HB := Lib.hid (HB.out.trans (b3.mono HB.out.size))
    clear b3
    clear ol
    rw [HLN.out]
    go_wp2
    go_ret
    exact ⟨ret_bool R.out, HB.out⟩
  have H7 := Lib.hid (show 0 < (lvl ps t.lv ps.length).length by rw [hgl.out, HLN.out]; exact h7)
  have hq : ((LN : Int) == 0) = false := by rw [beq_eq_false_iff_ne]; omega
  cases h0 : risB t.vars n
  · have R := Lib.hid (allB_3 (tabB_1 (ps := ps) (t := t) (risB_lenD hl.out h0)))
    have H0 := Lib.hid h0
    clear h0
    obtain ⟨b0, xg, xt⟩ := box_two w #[.slice P g cg] #[.int .i64 t.lv, .slice V m d, .slice U k e, .int .i64 t.sum] 36 56
    replace hX := hX.below b0
    replace hS := hS.below b0
    replace hT := hT.below b0
    have HB := Lib.hid b0
    have Xg := Lib.hid xg
    have Xt := Lib.hid xt
    clear b0 xg xt
    go_enter Tryz.func73, Tryz.ntmps73
    have lg := lt_of_block Xg.out
    have cg0 := box_cell Xg.out 0 _ rfl
    go_wp2_with fail
    clear lg cg0
    generalize (w.alloc (.cells #[.slice P g cg] 36)).alloc (.cells #[.int .i64 t.lv, .slice V m d, .slice U k e, .int .i64 t.sum] 56) = w0 at *
    refine (gGood_any P g cg ps _ hX).mono ?_
    rintro e w1 ⟨rfl, b1⟩
    rw [HA.out]
    replace Xg := Lib.hid (box_below Xg.out b1)
    replace Xt := Lib.hid (box_below Xt.out b1)
    replace hX := hX.below b1
    replace hS := hS.below b1
    replace hT := hT.below b1
    replace HB := Lib.hid (HB.out.trans (b1.mono HB.out.size))
    clear b1
    go_wp2_with fail
    refine (sGood_any _ n _ vs _ hS.v hS.s hS.bd hS.cp).mono ?_
    rintro e w2 ⟨rfl, b2⟩
    rw [HS.out]
    replace Xg := Lib.hid (box_below Xg.out b2)
    replace Xt := Lib.hid (box_below Xt.out b2)
    replace hX := hX.below b2
    replace hS := hS.below b2
    replace hT := hT.below b2
    replace HB := Lib.hid (HB.out.trans (b2.mono HB.out.size))
    clear b2
    have lg := lt_of_block Xg.out
    have cg0 := box_cell Xg.out 0 _ rfl
    have lt := lt_of_block Xt.out
    have ct0 := box_cell Xt.out 0 _ rfl
    go_wp2_with fail
    clear lg cg0 lt ct0
    refine (gLevel_any P g cg ps t.lv _ hX HG.out).mono ?_
    rintro e w3 ⟨Al, cl, rfl, ol, b3⟩
    replace Xg := Lib.hid (box_below Xg.out b3)
    replace Xt := Lib.hid (box_below Xt.out b3)
    replace hX := hX.below b3
    replace hS := hS.below b3
    replace hT := hT.below b3
    replace HB := Lib.hid (HB.out.trans (b3.mono HB.out.size))
    clear b3
    clear ol
    rw [HLN.out]
    have lt := lt_of_block Xt.out
    have ct1 := box_cell Xt.out 1 _ rfl
    go_wp2_with fail
    clear lt ct1
    refine (l1Rising_any _ n m _ t.vars _ hS.bd hT.v).mono ?_
    rintro e w4 ⟨rfl, rfl⟩
    rw [H0.out]
    go_wp2
    go_ret
    exact ⟨ret_bool R.out, HB.out⟩
  have H0 := Lib.hid h0
  have HK := Lib.hid (show PartOk vs t.vars n from ⟨hS.len, HS.out, h0⟩)
  clear h0
  cases h1 : whB vs t.wh
  · have R := Lib.hid (allB_3 (tabB_2 (ps := ps) (t := t) h1))
    have H1 := Lib.hid h1
    clear h1
    obtain ⟨b0, xg, xt⟩ := box_two w #[.slice P g cg] #[.int .i64 t.lv, .slice V m d, .slice U k e, .int .i64 t.sum] 36 56
    replace hX := hX.below b0
    replace hS := hS.below b0
    replace hT := hT.below b0
    have HB := Lib.hid b0
    have Xg := Lib.hid xg
    have Xt := Lib.hid xt
    clear b0 xg xt
    go_enter Tryz.func73, Tryz.ntmps73
    have lg := lt_of_block Xg.out
    have cg0 := box_cell Xg.out 0 _ rfl
    go_wp2_with fail
    clear lg cg0
    generalize (w.alloc (.cells #[.slice P g cg] 36)).alloc (.cells #[.int .i64 t.lv, .slice V m d, .slice U k e, .int .i64 t.sum] 56) = w0 at *
    refine (gGood_any P g cg ps _ hX).mono ?_
    rintro e w1 ⟨rfl, b1⟩
    rw [HA.out]
    replace Xg := Lib.hid (box_below Xg.out b1)
    replace Xt := Lib.hid (box_below Xt.out b1)
    replace hX := hX.below b1
    replace hS := hS.below b1
    replace hT := hT.below b1
    replace HB := Lib.hid (HB.out.trans (b1.mono HB.out.size))
    clear b1
    go_wp2_with fail
    refine (sGood_any _ n _ vs _ hS.v hS.s hS.bd hS.cp).mono ?_
    rintro e w2 ⟨rfl, b2⟩
    rw [HS.out]
    replace Xg := Lib.hid (box_below Xg.out b2)
    replace Xt := Lib.hid (box_below Xt.out b2)
    replace hX := hX.below b2
    replace hS := hS.below b2
    replace hT := hT.below b2
    replace HB := Lib.hid (HB.out.trans (b2.mono HB.out.size))
    clear b2
    have lg := lt_of_block Xg.out
    have cg0 := box_cell Xg.out 0 _ rfl
    have lt := lt_of_block Xt.out
    have ct0 := box_cell Xt.out 0 _ rfl
    go_wp2_with fail
    clear lg cg0 lt ct0
    refine (gLevel_any P g cg ps t.lv _ hX HG.out).mono ?_
    rintro e w3 ⟨Al, cl, rfl, ol, b3⟩
    replace Xg := Lib.hid (box_below Xg.out b3)
    replace Xt := Lib.hid (box_below Xt.out b3)
    replace hX := hX.below b3
    replace hS := hS.below b3
    replace hT := hT.below b3
    replace HB := Lib.hid (HB.out.trans (b3.mono HB.out.size))
    clear b3
    clear ol
    rw [HLN.out]
    have lt := lt_of_block Xt.out
    have ct1 := box_cell Xt.out 1 _ rfl
    go_wp2_with fail
    clear lt ct1
    refine (l1Rising_any _ n m _ t.vars _ hS.bd hT.v).mono ?_
    rintro e w4 ⟨rfl, rfl⟩
    rw [H0.out]
    have lt := lt_of_block Xt.out
    have ct2 := box_cell Xt.out 2 _ rfl
    go_wp2_with fail
    clear lt ct2
    refine (uWhere_any _ _ n _ k _ vs t.wh _ hS hT.u HL.out).mono ?_
    rintro e w5 ⟨rfl, b5⟩
    rw [H1.out]
    replace Xg := Lib.hid (box_below Xg.out b5)
    replace Xt := Lib.hid (box_below Xt.out b5)
    replace hX := hX.below b5
    replace hS := hS.below b5
    replace hT := hT.below b5
    replace HB := Lib.hid (HB.out.trans (b5.mono HB.out.size))
    clear b5
    go_wp2
    go_ret
    exact ⟨ret_bool R.out, HB.out⟩
  have H1 := Lib.hid h1
  clear h1
  cases h2 : inR t.sum (-1) ((n : Int) - 1)
  · have R := Lib.hid (allB_3 (tabB_3 (ps := ps) (t := t) (by rw [hl.out]; exact h2)))
    have H2 := Lib.hid h2
    clear h2
    obtain ⟨b0, xg, xt⟩ := box_two w #[.slice P g cg] #[.int .i64 t.lv, .slice V m d, .slice U k e, .int .i64 t.sum] 36 56
    replace hX := hX.below b0
    replace hS := hS.below b0
    replace hT := hT.below b0
    have HB := Lib.hid b0
    have Xg := Lib.hid xg
    have Xt := Lib.hid xt
    clear b0 xg xt
    go_enter Tryz.func73, Tryz.ntmps73
    have lg := lt_of_block Xg.out
    have cg0 := box_cell Xg.out 0 _ rfl
    go_wp2_with fail
    clear lg cg0
    generalize (w.alloc (.cells #[.slice P g cg] 36)).alloc (.cells #[.int .i64 t.lv, .slice V m d, .slice U k e, .int .i64 t.sum] 56) = w0 at *
    refine (gGood_any P g cg ps _ hX).mono ?_
    rintro e w1 ⟨rfl, b1⟩
    rw [HA.out]
    replace Xg := Lib.hid (box_below Xg.out b1)
    replace Xt := Lib.hid (box_below Xt.out b1)
    replace hX := hX.below b1
    replace hS := hS.below b1
    replace hT := hT.below b1
    replace HB := Lib.hid (HB.out.trans (b1.mono HB.out.size))
    clear b1
    go_wp2_with fail
    refine (sGood_any _ n _ vs _ hS.v hS.s hS.bd hS.cp).mono ?_
    rintro e w2 ⟨rfl, b2⟩
    rw [HS.out]
    replace Xg := Lib.hid (box_below Xg.out b2)
    replace Xt := Lib.hid (box_below Xt.out b2)
    replace hX := hX.below b2
    replace hS := hS.below b2
    replace hT := hT.below b2
    replace HB := Lib.hid (HB.out.trans (b2.mono HB.out.size))
    clear b2
    have lg := lt_of_block Xg.out
    have cg0 := box_cell Xg.out 0 _ rfl
    have lt := lt_of_block Xt.out
    have ct0 := box_cell Xt.out 0 _ rfl
    go_wp2_with fail
    clear lg cg0 lt ct0
    refine (gLevel_any P g cg ps t.lv _ hX HG.out).mono ?_
    rintro e w3 ⟨Al, cl, rfl, ol, b3⟩
    replace Xg := Lib.hid (box_below Xg.out b3)
    replace Xt := Lib.hid (box_below Xt.out b3)
    replace hX := hX.below b3
    replace hS := hS.below b3
    replace hT := hT.below b3
    replace HB := Lib.hid (HB.out.trans (b3.mono HB.out.size))
    clear b3
    clear ol
    rw [HLN.out]
    have lt := lt_of_block Xt.out
    have ct1 := box_cell Xt.out 1 _ rfl
    go_wp2_with fail
    clear lt ct1
    refine (l1Rising_any _ n m _ t.vars _ hS.bd hT.v).mono ?_
    rintro e w4 ⟨rfl, rfl⟩
    rw [H0.out]
    have lt := lt_of_block Xt.out
    have ct2 := box_cell Xt.out 2 _ rfl
    go_wp2_with fail
    clear lt ct2
    refine (uWhere_any _ _ n _ k _ vs t.wh _ hS hT.u HL.out).mono ?_
    rintro e w5 ⟨rfl, b5⟩
    rw [H1.out]
    replace Xg := Lib.hid (box_below Xg.out b5)
    replace Xt := Lib.hid (box_below Xt.out b5)
    replace hX := hX.below b5
    replace hS := hS.below b5
    replace hT := hT.below b5
    replace HB := Lib.hid (HB.out.trans (b5.mono HB.out.size))
    clear b5
    have lt := lt_of_block Xt.out
    have ct3 := box_cell Xt.out 3 _ rfl
    go_wp2_with fail
    clear lt ct3
    refine (l1In_any _ _ _ _).mono ?_
    rintro e w6 ⟨rfl, rfl⟩
    rw [H2.out]
    go_wp2
    go_ret
    exact ⟨ret_bool R.out, HB.out⟩
  have H2 := Lib.hid h2
  clear h2
  have hpr := HK.out.prod
  have HC := Lib.hid (show cntV ps vs t = (LN : Int) * prodN vs t.vars t.vars.length by unfold cntV; rw [hgl.out, HLN.out])
  have H5 := Lib.hid (fun (h : ¬ (LN : Int) * prodN vs t.vars t.vars.length ≤ 600) => allB_3 (tabB_5 (ps := ps) (vs := vs) (t := t) (by rw [HC.out]; exact h)))
  have H6 := Lib.hid (fun (h2 : (LN : Int) * prodN vs t.vars t.vars.length ≤ 600) => allB_4 (ps := ps) (vs := vs) (t := t) HA.out HS.out (tabB_6 (ps := ps) (vs := vs) (t := t) (risB_lenT hl.out H0.out) H1.out (by rw [hl.out]; exact H2.out) H7.out (by rw [HC.out]; exact h2)))
  clear HC
  obtain ⟨b0, xg, xt⟩ := box_two w #[.slice P g cg] #[.int .i64 t.lv, .slice V m d, .slice U k e, .int .i64 t.sum] 36 56
  replace hX := hX.below b0
  replace hS := hS.below b0
  replace hT := hT.below b0
  have HB := Lib.hid b0
  have Xg := Lib.hid xg
  have Xt := Lib.hid xt
  clear b0 xg xt
  go_enter Tryz.func73, Tryz.ntmps73
  have lg := lt_of_block Xg.out
  have cg0 := box_cell Xg.out 0 _ rfl
  go_wp2_with fail
  clear lg cg0
  generalize (w.alloc (.cells #[.slice P g cg] 36)).alloc (.cells #[.int .i64 t.lv, .slice V m d, .slice U k e, .int .i64 t.sum] 56) = w0 at *
  refine (gGood_any P g cg ps _ hX).mono ?_
  rintro e w1 ⟨rfl, b1⟩
  rw [HA.out]
  replace Xg := Lib.hid (box_below Xg.out b1)
  replace Xt := Lib.hid (box_below Xt.out b1)
  replace hX := hX.below b1
  replace hS := hS.below b1
  replace hT := hT.below b1
  replace HB := Lib.hid (HB.out.trans (b1.mono HB.out.size))
  clear b1
  go_wp2_with fail
  refine (sGood_any _ n _ vs _ hS.v hS.s hS.bd hS.cp).mono ?_
  rintro e w2 ⟨rfl, b2⟩
  rw [HS.out]
  replace Xg := Lib.hid (box_below Xg.out b2)
  replace Xt := Lib.hid (box_below Xt.out b2)
  replace hX := hX.below b2
  replace hS := hS.below b2
  replace hT := hT.below b2
  replace HB := Lib.hid (HB.out.trans (b2.mono HB.out.size))
  clear b2
  have lg := lt_of_block Xg.out
  have cg0 := box_cell Xg.out 0 _ rfl
  have lt := lt_of_block Xt.out
  have ct0 := box_cell Xt.out 0 _ rfl
  go_wp2_with fail
  clear lg cg0 lt ct0
  refine (gLevel_any P g cg ps t.lv _ hX HG.out).mono ?_
  rintro e w3 ⟨Al, cl, rfl, ol, b3⟩
  replace Xg := Lib.hid (box_below Xg.out b3)
  replace Xt := Lib.hid (box_below Xt.out b3)
  replace hX := hX.below b3
  replace hS := hS.below b3
  replace hT := hT.below b3
  replace HB := Lib.hid (HB.out.trans (b3.mono HB.out.size))
  clear b3
  clear ol
  rw [HLN.out]
  have lt := lt_of_block Xt.out
  have ct1 := box_cell Xt.out 1 _ rfl
  go_wp2_with fail
  clear lt ct1
  refine (l1Rising_any _ n m _ t.vars _ hS.bd hT.v).mono ?_
  rintro e w4 ⟨rfl, rfl⟩
  rw [H0.out]
  have lt := lt_of_block Xt.out
  have ct2 := box_cell Xt.out 2 _ rfl
  go_wp2_with fail
  clear lt ct2
  refine (uWhere_any _ _ n _ k _ vs t.wh _ hS hT.u HL.out).mono ?_
  rintro e w5 ⟨rfl, b5⟩
  rw [H1.out]
  replace Xg := Lib.hid (box_below Xg.out b5)
  replace Xt := Lib.hid (box_below Xt.out b5)
  replace hX := hX.below b5
  replace hS := hS.below b5
  replace hT := hT.below b5
  replace HB := Lib.hid (HB.out.trans (b5.mono HB.out.size))
  clear b5
  have lt := lt_of_block Xt.out
  have ct3 := box_cell Xt.out 3 _ rfl
  go_wp2_with fail
  clear lt ct3
  refine (l1In_any _ _ _ _).mono ?_
  rintro e w6 ⟨rfl, rfl⟩
  rw [H2.out]
  have lg := lt_of_block Xg.out
  have cg0 := box_cell Xg.out 0 _ rfl
  have lt := lt_of_block Xt.out
  have ct0 := box_cell Xt.out 0 _ rfl
  have ct1 := box_cell Xt.out 1 _ rfl
  have ct2 := box_cell Xt.out 2 _ rfl
  have ct3 := box_cell Xt.out 3 _ rfl
  go_wp2_with fail
  clear lg cg0 lt ct0 ct1 ct2 ct3
  refine (uCount_any P A V U g cg n c m d k e ps t vs _ HG.out hX hS hT HK.out).mono ?_
  rintro e w7 ⟨rfl, b7⟩
  rw [HLN.out]
  replace Xg := Lib.hid (box_below Xg.out b7)
  replace Xt := Lib.hid (box_below Xt.out b7)
  replace hX := hX.below b7
  replace hS := hS.below b7
  replace hT := hT.below b7
  replace HB := Lib.hid (HB.out.trans (b7.mono HB.out.size))
  clear b7
  clear hX hS hT
  generalize prodN vs t.vars t.vars.length = PR at *
  have hbd := cnt_bd hlv hpr.1 hpr.2
  generalize (LN : Int) * PR = CN at *
  by_cases h8 : CN ≤ 600
  · have R := Lib.hid (H6.out h8)
    go_wp2
    go_ret
    exact ⟨ret_bool R.out, HB.out⟩
  · have R := Lib.hid ((decide_eq_false h8).trans (H5.out (by omega)))
    go_wp2
    go_ret
    exact ⟨ret_bool R.out, HB.out⟩
end Go.Proofs.YtfanpbfmnckmnaaGreat
