/- Least gaps of tables, of the program and of the reference; printed by gga.py. -/
import Derived.Test.YtfanpbfmnckmnaaGreatTbo
import Derived.Test.YtfanpbfmnckmnaaGreatLosB
import Derived.Test.YtfanpbfmnckmnaaGreatFewest
import Derived.RegionTactic
import Derived.BigRegion
namespace Go.Proofs.YtfanpbfmnckmnaaGreat
open Go.RowKit

/-- Geography, schema and survey of a server are valid. -/
structure SurOk (D : SvD) : Prop where
  g : geoB D.par = true
  s : schB D.vs = true
  d : surB D.par D.vs D.rs = true
/-- What they read as. -/
structure SurR (w : World) (P A Z : Option Addr) (g n c m : Nat) (D : SvD) : Prop where
  p : IntR w P g D.par
  s : SchR w A n c D.vs
  d : DatR w Z m D.rs
theorem SurR.below {w w' : World} {P A Z : Option Addr} {g n c m : Nat} {D : SvD} (h : SurR w P A Z g n c m D) (hb : Below w.heap.size w w') : SurR w' P A Z g n c m D := ⟨h.p.below hb, h.s.below hb, h.d.below hb⟩
theorem SurOk.tab {D : SvD} {w : World} {P A Z : Option Addr} {g n c m : Nat} {t : TabD} (h : SurOk D) (hr : SurR w P A Z g n c m D) (ht : tabB D.par D.vs t = true) : TabOk D.par D.vs t g n := by
  have h1 := tabB_ok h.g h.s ht
  rw [hr.p.len, hr.s.len] at h1
  exact h1
theorem l1Most_G (a b : Int) (w : World) : Calls Tryz.prog 179 #[.int .i64 a, .int .i64 b] w fun e w' => e = .returned (.int .i64 (if b < a then a else b)) ∧ w = w' := by
  go_enter Tryz.func179, Tryz.ntmps179
  by_cases h : b < a
  · rw [if_pos h]
    go_wp2
    go_ret
    exact ⟨rfl, rfl⟩
  · rw [if_neg h]
    go_wp2
    go_ret
    exact ⟨rfl, rfl⟩
theorem l1Abs_G (a : Int) (w : World) (h0 : -1000000 ≤ a) (h1 : a ≤ 1000000) : Calls Tryz.prog 136 #[.int .i64 a] w fun e w' => e = .returned (.int .i64 (absG a)) ∧ w = w' := by
  have R := Lib.hid (show (if -a < a then a else -a) = absG a by unfold absG; split <;> split <;> omega)
  go_enter Tryz.func136, Tryz.ntmps136
  go_wp2_with fail
  refine (l1Most_G a (-a) _).mono ?_
  rintro e w1 ⟨rfl, rfl⟩
  rw [R.out]
  go_wp2
  go_ret
  exact ⟨rfl, rfl⟩
theorem kindT_cnt {a b : TabD} (ps : List Int) (vs : List (ByteArray × Int)) (h : kindT a b = true) : cntV ps vs a = cntV ps vs b := by
  unfold kindT at h
  simp only [Bool.and_eq_true, beq_iff_eq] at h
  unfold cntV
  rw [h.1, h.2.2]
theorem gapN_yes {D : SvD} {ts : List TabD} {t : TabD} {k : Nat} (h : kindT (tX ts k) t = true) : gapN D ts t (k + 1) = gapC (D.tbl t) (D.tbl (tX ts k)) (gapN D ts t k) (D.tbl (tX ts k)).length := by rw [gapN, if_pos h]
theorem gapN_no {D : SvD} {ts : List TabD} {t : TabD} {k : Nat} (h : kindT (tX ts k) t = false) : gapN D ts t (k + 1) = gapN D ts t k := by rw [gapN, if_neg (by rw [h]; simp)]
theorem tbl_bd {ps : List Int} {vs : List (ByteArray × Int)} {rs : List RecD} {t : TabD} {g n : Nat} (h : TabOk ps vs t g n) (hs : surB ps vs rs = true) (i : Nat) : 0 ≤ (tblV ps vs t rs)[i]?.getD 0 ∧ (tblV ps vs t rs)[i]?.getD 0 ≤ 280 := by
  have h1 := tblN_bd h (sur_data hs) rs.length (Nat.le_refl _) i
  have h2 := (dataB_of (sur_data hs)).1
  unfold tblV
  omega
theorem tblV_len {ps : List Int} {vs : List (ByteArray × Int)} {rs : List RecD} {t : TabD} : (tblV ps vs t rs).length = (cntV ps vs t).toNat := tblN_len _

set_option maxRecDepth 100000 in
set_option maxHeartbeats 2000000 in
theorem leastGap_any (P A Z Y Q : Option Addr) (g cg n c m cm p cp q cq : Nat) (D : SvD) (V U : Option Addr) (tm td tk te : Nat) (t : TabD) (ts : List TabD) (w : World) (hO : SurOk D) (ht : tabB D.par D.vs t = true) (hts : ∀ j, j < q → tabB D.par D.vs (tX ts j) = true) (hR : SurR w P A Z g n c m D) (hT : TabR w V tm U tk t) (hQ : TabsR w Q q ts) :
    Calls Tryz.prog 77 #[.agg #[.slice P g cg, .slice A n c, .slice Z m cm, .slice Y p cp, .int .i64 D.cost.a, .int .i64 D.cost.b, .int .i64 D.cost.c, .int .i64 D.cost.d, .int .i64 D.bud.a, .int .i64 D.bud.b, .int .i64 D.bud.c, .int .i64 D.bud.d, .int .i64 D.floor, .slice Q q cq], .agg #[.int .i64 t.lv, .slice V tm td, .slice U tk te, .int .i64 t.sum]] w fun e w' => e = .returned (.int .i64 (gapV D ts t)) ∧ Below w.heap.size w w' := by
  have HO := Lib.hid hO
  have HTO := Lib.hid (hO.tab hR ht)
  have HTS := Lib.hid (fun j (hj : j < q) => hO.tab hR (hts j hj))
  have hq := hQ.bd
  have HL := Lib.hid hQ.len
  have HG := Lib.hid (show gapV D ts t = gapN D ts t q by unfold gapV; rw [HL.out])
  have hN := HTO.out.cntN
  obtain ⟨N, hNe⟩ : ∃ N, (cntV D.par D.vs t).toNat = N := ⟨_, rfl⟩
  have HNE := Lib.hid hNe
  rw [hNe] at hN
  have hN1 := hN.2
  clear hN hNe hO ht hts
  obtain ⟨b0, xs, xt⟩ := box_two w #[.slice P g cg, .slice A n c, .slice Z m cm, .slice Y p cp, .int .i64 D.cost.a, .int .i64 D.cost.b, .int .i64 D.cost.c, .int .i64 D.cost.d, .int .i64 D.bud.a, .int .i64 D.bud.b, .int .i64 D.bud.c, .int .i64 D.bud.d, .int .i64 D.floor, .slice Q q cq] #[.int .i64 t.lv, .slice V tm td, .slice U tk te, .int .i64 t.sum] 44 56
  replace hR := hR.below b0
  replace hT := hT.below b0
  replace hQ := hQ.below b0
  have HB := Lib.hid b0
  have Xs := Lib.hid xs
  have Xt := Lib.hid xt
  clear b0 xs xt
  go_enter Tryz.func77, Tryz.ntmps77
  have ls := lt_of_block Xs.out
  have cs0 := box_cell Xs.out 0 _ rfl
  have cs1 := box_cell Xs.out 1 _ rfl
  have cs2 := box_cell Xs.out 2 _ rfl
  have cs13 := box_cell Xs.out 13 _ rfl
  have lt := lt_of_block Xt.out
  have ct0 := box_cell Xt.out 0 _ rfl
  have ct1 := box_cell Xt.out 1 _ rfl
  have ct2 := box_cell Xt.out 2 _ rfl
  have ct3 := box_cell Xt.out 3 _ rfl
  go_wp2_with fail
  clear ls cs0 cs1 cs2 cs13 lt ct0 ct1 ct2 ct3
  generalize (w.alloc (.cells #[.slice P g cg, .slice A n c, .slice Z m cm, .slice Y p cp, .int .i64 D.cost.a, .int .i64 D.cost.b, .int .i64 D.cost.c, .int .i64 D.cost.d, .int .i64 D.bud.a, .int .i64 D.bud.b, .int .i64 D.bud.c, .int .i64 D.bud.d, .int .i64 D.floor, .slice Q q cq] 44)).alloc (.cells #[.int .i64 t.lv, .slice V tm td, .slice U tk te, .int .i64 t.sum] 56) = w0 at *
  refine (tableOf_any P A V U Z g cg n c tm td tk te m cm D.par t D.vs D.rs _ HTO.out HO.out.d hR.p hR.s hT hR.d).mono ?_
  rintro e w1 ⟨O, oc, rfl, ho, b1⟩
  rw [HNE.out] at ho ⊢
  replace Xs := Lib.hid (box_below Xs.out b1)
  replace Xt := Lib.hid (box_below Xt.out b1)
  replace hR := hR.below b1
  replace hT := hT.below b1
  replace hQ := hQ.below b1
  replace HB := Lib.hid (HB.out.trans (b1.mono HB.out.size))
  clear b1
  have s1 := HB.out.size
  have HI := Lib.hid (IntR.mk ho.ints (by omega))
  have HOB := Lib.hid (fun i => tbl_bd HTO.out HO.out.d i)
  clear ho
  have HR := Lib.hid hR
  have HT := Lib.hid hT
  have HQ := Lib.hid hQ
  clear hR hT hQ
  have ls := lt_of_block Xs.out
  have cs0 := box_cell Xs.out 0 _ rfl
  have cs1 := box_cell Xs.out 1 _ rfl
  have cs2 := box_cell Xs.out 2 _ rfl
  have cs13 := box_cell Xs.out 13 _ rfl
  have lt := lt_of_block Xt.out
  have ct0 := box_cell Xt.out 0 _ rfl
  have ct1 := box_cell Xt.out 1 _ rfl
  have ct2 := box_cell Xt.out 2 _ rfl
  have ct3 := box_cell Xt.out 3 _ rfl
  go_wp2
  clear ls cs0 cs1 cs2 cs13 lt ct0 ct1 ct2 ct3
  go_loopw [5, 23] (fun b i wr => ∃ j : Nat, j ≤ q ∧ i = .int .i64 j ∧ b = .int .i64 (gapN D ts t j) ∧ Hid (Below w1.heap.size w1 wr)) (fun _ i _ => q - (intOf i).toNat)
  case atStart => exact ⟨0, Nat.zero_le _, rfl, rfl, Lib.hid (Below.refl _ _)⟩
  case round =>
    obtain ⟨j, hj, rfl, rfl, HW⟩ := hrel
    by_cases hlt : j < q
    · obtain ⟨ad, rfl, V', m', d', U', k', e', c0, c1, c2, c3, hu⟩ := (HQ.out.below HW.out).at_ hlt
      have bj := below_new wr (.cells #[.int .i64 (tX ts j).lv, .slice V' m' d', .slice U' k' e', .int .i64 (tX ts j).sum] 56)
      have XN := Lib.hid (box_new wr #[.int .i64 (tX ts j).lv, .slice V' m' d', .slice U' k' e', .int .i64 (tX ts j).sum] 56)
      have HU := Lib.hid (hu.below bj)
      have XS := Lib.hid (box_below (box_below Xs.out HW.out) bj)
      have XT := Lib.hid (box_below (box_below Xt.out HW.out) bj)
      have HW2 := Lib.hid (HW.out.trans (bj.mono HW.out.size))
      clear hu bj HW
      have HY := Lib.hid (gapN_yes (D := D) (ts := ts) (t := t) (k := j))
      have HNO := Lib.hid (gapN_no (D := D) (ts := ts) (t := t) (k := j))
      have hK : kindT (tX ts j) t = (((tX ts j).lv == t.lv) && (((tX ts j).sum == t.sum) && ((tX ts j).vars == t.vars))) := rfl
      have HK := Lib.hid hK
      clear hK
      cases hl : ((tX ts j).lv == t.lv)
      · have R := Lib.hid (HNO.out (by rw [HK.out, hl]; simp))
        have ql : ((tX ts j).lv != t.lv) = true := by rw [bne, hl]; rfl
        replace hl := Lib.hid hl
        clear HY HNO HK
        have ls := lt_of_block XS.out
        have qs0 := box_cell XS.out 0 _ rfl
        have qs1 := box_cell XS.out 1 _ rfl
        have qs2 := box_cell XS.out 2 _ rfl
        have lt := lt_of_block XT.out
        have qt0 := box_cell XT.out 0 _ rfl
        have qt1 := box_cell XT.out 1 _ rfl
        have qt2 := box_cell XT.out 2 _ rfl
        have qt3 := box_cell XT.out 3 _ rfl
        have ln := lt_of_block XN.out
        have qn0 := box_cell XN.out 0 _ rfl
        have qn1 := box_cell XN.out 1 _ rfl
        have qn2 := box_cell XN.out 2 _ rfl
        have qn3 := box_cell XN.out 3 _ rfl
        go_wp2
        go_roundw
        case rel => exact ⟨j + 1, by omega, by go_num, by rw [R.out], HW2⟩
        case measure => simp [intOf]; omega
      have ql : ((tX ts j).lv != t.lv) = false := by rw [bne, hl]; rfl
      replace hl := Lib.hid hl
      cases hs : ((tX ts j).sum == t.sum)
      · have R := Lib.hid (HNO.out (by rw [HK.out, hl.out, hs]; simp))
        have qs : ((tX ts j).sum != t.sum) = true := by rw [bne, hs]; rfl
        replace hs := Lib.hid hs
        clear HY HNO HK
        have ls := lt_of_block XS.out
        have qs0 := box_cell XS.out 0 _ rfl
        have qs1 := box_cell XS.out 1 _ rfl
        have qs2 := box_cell XS.out 2 _ rfl
        have lt := lt_of_block XT.out
        have qt0 := box_cell XT.out 0 _ rfl
        have qt1 := box_cell XT.out 1 _ rfl
        have qt2 := box_cell XT.out 2 _ rfl
        have qt3 := box_cell XT.out 3 _ rfl
        have ln := lt_of_block XN.out
        have qn0 := box_cell XN.out 0 _ rfl
        have qn1 := box_cell XN.out 1 _ rfl
        have qn2 := box_cell XN.out 2 _ rfl
        have qn3 := box_cell XN.out 3 _ rfl
        go_wp2
        go_roundw
        case rel => exact ⟨j + 1, by omega, by go_num, by rw [R.out], HW2⟩
        case measure => simp [intOf]; omega
      have qs : ((tX ts j).sum != t.sum) = false := by rw [bne, hs]; rfl
      replace hs := Lib.hid hs
      cases hv : ((tX ts j).vars == t.vars)
      · have R := Lib.hid (HNO.out (by rw [HK.out, hl.out, hs.out, hv]; simp))
        replace hv := Lib.hid hv
        clear HY HNO HK
        have ls := lt_of_block XS.out
        have qs0 := box_cell XS.out 0 _ rfl
        have qs1 := box_cell XS.out 1 _ rfl
        have qs2 := box_cell XS.out 2 _ rfl
        have lt := lt_of_block XT.out
        have qt0 := box_cell XT.out 0 _ rfl
        have qt1 := box_cell XT.out 1 _ rfl
        have qt2 := box_cell XT.out 2 _ rfl
        have qt3 := box_cell XT.out 3 _ rfl
        have ln := lt_of_block XN.out
        have qn0 := box_cell XN.out 0 _ rfl
        have qn1 := box_cell XN.out 1 _ rfl
        have qn2 := box_cell XN.out 2 _ rfl
        have qn3 := box_cell XN.out 3 _ rfl
        go_wp2_with fail
        clear ls qs0 qs1 qs2 lt qt0 qt1 qt2 qt3 ln qn0 qn1 qn2 qn3
        clear c0 c1 c2 c3
        generalize wr.alloc (.cells #[.int .i64 (tX ts j).lv, .slice V' m' d', .slice U' k' e', .int .i64 (tX ts j).sum] 56) = w4 at *
        refine (slEqual_any V' V m' d' tm td (tX ts j).vars t.vars _ HU.out.v (HT.out.v.below HW2.out)).mono ?_
        rintro e w5 ⟨rfl, b5⟩
        rw [hv.out]
        replace XS := Lib.hid (box_below XS.out b5)
        replace XT := Lib.hid (box_below XT.out b5)
        replace XN := Lib.hid (box_below XN.out b5)
        replace HU := Lib.hid (HU.out.below b5)
        replace HW2 := Lib.hid (HW2.out.trans (b5.mono HW2.out.size))
        clear b5
        have ls := lt_of_block XS.out
        have qs0 := box_cell XS.out 0 _ rfl
        have qs1 := box_cell XS.out 1 _ rfl
        have qs2 := box_cell XS.out 2 _ rfl
        have lt := lt_of_block XT.out
        have qt0 := box_cell XT.out 0 _ rfl
        have qt1 := box_cell XT.out 1 _ rfl
        have qt2 := box_cell XT.out 2 _ rfl
        have qt3 := box_cell XT.out 3 _ rfl
        have ln := lt_of_block XN.out
        have qn0 := box_cell XN.out 0 _ rfl
        have qn1 := box_cell XN.out 1 _ rfl
        have qn2 := box_cell XN.out 2 _ rfl
        have qn3 := box_cell XN.out 3 _ rfl
        go_wp2
        go_roundw
        case rel => exact ⟨j + 1, by omega, by go_num, by rw [R.out], HW2⟩
        case measure => simp [intOf]; omega
      replace hv := Lib.hid hv
      have hkk : kindT (tX ts j) t = true := by rw [HK.out, hl.out, hs.out, hv.out]; rfl
      have RY := Lib.hid (HY.out hkk)
      have HNU := Lib.hid (show (cntV D.par D.vs (tX ts j)).toNat = N by rw [kindT_cnt _ _ hkk]; exact HNE.out)
      clear HY HNO HK hkk
      have ls := lt_of_block XS.out
      have qs0 := box_cell XS.out 0 _ rfl
      have qs1 := box_cell XS.out 1 _ rfl
      have qs2 := box_cell XS.out 2 _ rfl
      have lt := lt_of_block XT.out
      have qt0 := box_cell XT.out 0 _ rfl
      have qt1 := box_cell XT.out 1 _ rfl
      have qt2 := box_cell XT.out 2 _ rfl
      have qt3 := box_cell XT.out 3 _ rfl
      have ln := lt_of_block XN.out
      have qn0 := box_cell XN.out 0 _ rfl
      have qn1 := box_cell XN.out 1 _ rfl
      have qn2 := box_cell XN.out 2 _ rfl
      have qn3 := box_cell XN.out 3 _ rfl
      go_wp2_with fail
      clear ls qs0 qs1 qs2 lt qt0 qt1 qt2 qt3 ln qn0 qn1 qn2 qn3
      clear c0 c1 c2 c3
      generalize wr.alloc (.cells #[.int .i64 (tX ts j).lv, .slice V' m' d', .slice U' k' e', .int .i64 (tX ts j).sum] 56) = w4 at *
      refine (slEqual_any V' V m' d' tm td (tX ts j).vars t.vars _ HU.out.v (HT.out.v.below HW2.out)).mono ?_
      rintro e w5 ⟨rfl, b5⟩
      rw [hv.out]
      replace XS := Lib.hid (box_below XS.out b5)
      replace XT := Lib.hid (box_below XT.out b5)
      replace XN := Lib.hid (box_below XN.out b5)
      replace HU := Lib.hid (HU.out.below b5)
      replace HW2 := Lib.hid (HW2.out.trans (b5.mono HW2.out.size))
      clear b5
      have ls := lt_of_block XS.out
      have qs0 := box_cell XS.out 0 _ rfl
      have qs1 := box_cell XS.out 1 _ rfl
      have qs2 := box_cell XS.out 2 _ rfl
      have lt := lt_of_block XT.out
      have qt0 := box_cell XT.out 0 _ rfl
      have qt1 := box_cell XT.out 1 _ rfl
      have qt2 := box_cell XT.out 2 _ rfl
      have qt3 := box_cell XT.out 3 _ rfl
      have ln := lt_of_block XN.out
      have qn0 := box_cell XN.out 0 _ rfl
      have qn1 := box_cell XN.out 1 _ rfl
      have qn2 := box_cell XN.out 2 _ rfl
      have qn3 := box_cell XN.out 3 _ rfl
      go_wp2_with fail
      clear ls qs0 qs1 qs2 lt qt0 qt1 qt2 qt3 ln qn0 qn1 qn2 qn3
      have HUO := Lib.hid (HTS.out j hlt)
      refine (tableOf_any P A V' U' Z g cg n c m' d' k' e' m cm D.par (tX ts j) D.vs D.rs _ HUO.out HO.out.d (HR.out.p.below HW2.out) (HR.out.s.below HW2.out) HU.out (HR.out.d.below HW2.out)).mono ?_
      rintro e w6 ⟨O2, oc2, rfl, ho2, b6⟩
      rw [HNU.out] at ho2 ⊢
      have HI2 := Lib.hid (IntR.mk ho2.ints (by omega))
      have HOB2 := Lib.hid (fun i => tbl_bd HUO.out HO.out.d i)
      have HI1 := Lib.hid ((HI.out.below HW2.out).below b6)
      have HW6 := Lib.hid (HW2.out.trans (b6.mono HW2.out.size))
      have HE := Lib.hid (show gapN D ts t (j + 1) = gapC (D.tbl t) (D.tbl (tX ts j)) (gapN D ts t j) N by rw [RY.out]; congr 1; unfold SvD.tbl; rw [tblV_len]; exact HNU.out)
      clear ho2 b6 XS XT XN HU HW2 RY hl hv hs ql qs
      generalize gapN D ts t j = b0 at *
      go_wp2
      go_loopw [5, 56] (fun b i wr => ∃ (k2 aa : Nat), k2 ≤ N ∧ i = .int .i64 k2 ∧ b = .int .i64 (gapC (D.tbl t) (D.tbl (tX ts j)) b0 k2) ∧ wr = w6.drewN aa) (fun _ i _ => N - (intOf i).toNat)
      case atStart => exact ⟨0, 0, Nat.zero_le _, rfl, rfl, rfl⟩
      case round =>
        obtain ⟨k2, aa, hk2, rfl, rfl, rfl⟩ := hrel
        by_cases hlt2 : k2 < N
        · obtain ⟨ao, rfl, hco⟩ := HI1.out.i.at_ hlt2
          obtain ⟨av, rfl, hcv⟩ := HI2.out.i.at_ hlt2
          have hb1 := HOB.out k2
          have hb2 := HOB2.out k2
          have HS := Lib.hid (show gapC (D.tbl t) (D.tbl (tX ts j)) b0 (k2 + 1) = fewS (gapC (D.tbl t) (D.tbl (tX ts j)) b0 k2) (absG ((D.tbl (tX ts j))[k2]?.getD 0 - (D.tbl t)[k2]?.getD 0)) from rfl)
          have HT1 := Lib.hid (show (D.tbl t)[k2]?.getD 0 = (tblV D.par D.vs t D.rs)[k2]?.getD 0 from rfl)
          have HT2 := Lib.hid (show (D.tbl (tX ts j))[k2]?.getD 0 = (tblV D.par D.vs (tX ts j) D.rs)[k2]?.getD 0 from rfl)
          rw [HT1.out, HT2.out] at HS
          clear HT1 HT2
          generalize (tblV D.par D.vs t D.rs)[k2]?.getD 0 = x at *
          generalize (tblV D.par D.vs (tX ts j) D.rs)[k2]?.getD 0 = y at *
          generalize gapC (D.tbl t) (D.tbl (tX ts j)) b0 k2 = b at *
          have hw1 : IntKind.i64.wrap (y - x) = y - x := IntWalk.i64_in _ (by omega)
          have hw2 : IntKind.i64.wrap (x - y) = x - y := IntWalk.i64_in _ (by omega)
          by_cases hm : x - y ≤ y - x
          · have HA := Lib.hid (show absG (y - x) = y - x by unfold absG; rw [if_neg (by omega)])
            rw [HA.out] at HS
            clear HA
            by_cases h1 : 0 < y - x
            · by_cases h2 : b = 0
              · have R := Lib.hid (HS.out.trans (fewS_yes h1 (.inl h2)))
                have hq : (b == 0) = true := by rw [h2]; rfl
                clear HS
                go_wp2
                go_region
                go_wp2
                go_roundw
                case rel => exact ⟨k2 + 1, _, by omega, by go_num, by rw [R.out], rfl⟩
                case measure => simp [intOf]; omega
              have hq : (b == 0) = false := by rw [beq_eq_false_iff_ne]; exact h2
              by_cases h3 : y - x < b
              · have R := Lib.hid (HS.out.trans (fewS_yes h1 (.inr h3)))
                clear HS
                go_wp2
                go_region
                go_wp2
                go_roundw
                case rel => exact ⟨k2 + 1, _, by omega, by go_num, by rw [R.out], rfl⟩
                case measure => simp [intOf]; omega
              · have R := Lib.hid (HS.out.trans (fewS_no (by omega)))
                clear HS
                go_wp2
                go_region
                go_wp2
                go_roundw
                case rel => exact ⟨k2 + 1, _, by omega, by go_num, by rw [R.out], rfl⟩
                case measure => simp [intOf]; omega
            · have R := Lib.hid (HS.out.trans (fewS_no (by omega)))
              clear HS
              go_wp2
              go_region
              go_wp2
              go_roundw
              case rel => exact ⟨k2 + 1, _, by omega, by go_num, by rw [R.out], rfl⟩
              case measure => simp [intOf]; omega
          · have HA := Lib.hid (show absG (y - x) = x - y by unfold absG; rw [if_pos (by omega)]; omega)
            rw [HA.out] at HS
            clear HA
            by_cases h1 : 0 < x - y
            · by_cases h2 : b = 0
              · have R := Lib.hid (HS.out.trans (fewS_yes h1 (.inl h2)))
                have hq : (b == 0) = true := by rw [h2]; rfl
                clear HS
                go_wp2
                go_region
                go_wp2
                go_roundw
                case rel => exact ⟨k2 + 1, _, by omega, by go_num, by rw [R.out], rfl⟩
                case measure => simp [intOf]; omega
              have hq : (b == 0) = false := by rw [beq_eq_false_iff_ne]; exact h2
              by_cases h3 : x - y < b
              · have R := Lib.hid (HS.out.trans (fewS_yes h1 (.inr h3)))
                clear HS
                go_wp2
                go_region
                go_wp2
                go_roundw
                case rel => exact ⟨k2 + 1, _, by omega, by go_num, by rw [R.out], rfl⟩
                case measure => simp [intOf]; omega
              · have R := Lib.hid (HS.out.trans (fewS_no (by omega)))
                clear HS
                go_wp2
                go_region
                go_wp2
                go_roundw
                case rel => exact ⟨k2 + 1, _, by omega, by go_num, by rw [R.out], rfl⟩
                case measure => simp [intOf]; omega
            · exfalso
              omega
        · obtain rfl : k2 = N := by omega
          have HW7 := Lib.hid (below_drewN HW6.out aa)
          clear HI1 HI2 HOB2 HUO HNU HW6
          go_wp2
          go_roundw
          case rel => exact ⟨j + 1, by omega, by go_num, by rw [HE.out], HW7⟩
          case measure => simp [intOf]; omega
    · obtain rfl : j = q := by omega
      go_wp2
      go_ret
      exact ⟨ret_int HG.out.symm, HB.out.trans (HW.out.mono s1)⟩

set_option maxRecDepth 100000 in
set_option maxHeartbeats 2000000 in
theorem jGap_any (P A Z Y Q : Option Addr) (g cg n c m cm p cp q cq : Nat) (D : SvD) (V U E : Option Addr) (tm td tk te r ce : Nat) (t : TabD) (ts : List TabD) (w : World) (hO : SurOk D) (ht : tabB D.par D.vs t = true) (hts : ∀ j, j < r → tabB D.par D.vs (tX ts j) = true) (hR : SurR w P A Z g n c m D) (hT : TabR w V tm U tk t) (hQ : TabsR w E r ts) :
    Calls Tryz.prog 74 #[.agg #[.slice P g cg, .slice A n c, .slice Z m cm, .slice Y p cp, .int .i64 D.cost.a, .int .i64 D.cost.b, .int .i64 D.cost.c, .int .i64 D.cost.d, .int .i64 D.bud.a, .int .i64 D.bud.b, .int .i64 D.bud.c, .int .i64 D.bud.d, .int .i64 D.floor, .slice Q q cq], .slice E r ce, .agg #[.int .i64 t.lv, .slice V tm td, .slice U tk te, .int .i64 t.sum]] w fun e w' => e = .returned (.int .i64 (gapV D ts t)) ∧ Below w.heap.size w w' := by
  have HO := Lib.hid hO
  have HTO := Lib.hid (hO.tab hR ht)
  have HTS := Lib.hid (fun j (hj : j < r) => hO.tab hR (hts j hj))
  have hq := hQ.bd
  have HL := Lib.hid hQ.len
  have HG := Lib.hid (show gapV D ts t = gapN D ts t r by unfold gapV; rw [HL.out])
  have hN := HTO.out.cntN
  obtain ⟨N, hNe⟩ : ∃ N, (cntV D.par D.vs t).toNat = N := ⟨_, rfl⟩
  have HNE := Lib.hid hNe
  rw [hNe] at hN
  have hN1 := hN.2
  clear hN hNe hO ht hts
  obtain ⟨b0, xs, xt⟩ := box_two w #[.slice P g cg, .slice A n c, .slice Z m cm, .slice Y p cp, .int .i64 D.cost.a, .int .i64 D.cost.b, .int .i64 D.cost.c, .int .i64 D.cost.d, .int .i64 D.bud.a, .int .i64 D.bud.b, .int .i64 D.bud.c, .int .i64 D.bud.d, .int .i64 D.floor, .slice Q q cq] #[.int .i64 t.lv, .slice V tm td, .slice U tk te, .int .i64 t.sum] 44 56
  replace hR := hR.below b0
  replace hT := hT.below b0
  replace hQ := hQ.below b0
  have HB := Lib.hid b0
  have Xs := Lib.hid xs
  have Xt := Lib.hid xt
  clear b0 xs xt
  go_enter Tryz.func74, Tryz.ntmps74
  have ls := lt_of_block Xs.out
  have cs0 := box_cell Xs.out 0 _ rfl
  have cs1 := box_cell Xs.out 1 _ rfl
  have cs2 := box_cell Xs.out 2 _ rfl
  have lt := lt_of_block Xt.out
  have ct0 := box_cell Xt.out 0 _ rfl
  have ct1 := box_cell Xt.out 1 _ rfl
  have ct2 := box_cell Xt.out 2 _ rfl
  have ct3 := box_cell Xt.out 3 _ rfl
  go_wp2_with fail
  clear ls cs0 cs1 cs2 lt ct0 ct1 ct2 ct3
  generalize (w.alloc (.cells #[.slice P g cg, .slice A n c, .slice Z m cm, .slice Y p cp, .int .i64 D.cost.a, .int .i64 D.cost.b, .int .i64 D.cost.c, .int .i64 D.cost.d, .int .i64 D.bud.a, .int .i64 D.bud.b, .int .i64 D.bud.c, .int .i64 D.bud.d, .int .i64 D.floor, .slice Q q cq] 44)).alloc (.cells #[.int .i64 t.lv, .slice V tm td, .slice U tk te, .int .i64 t.sum] 56) = w0 at *
  refine (uTable_any P A V U Z g cg n c tm td tk te m cm D.par t D.vs D.rs _ HTO.out HO.out.d hR.p hR.s hT hR.d).mono ?_
  rintro e w1 ⟨O, oc, rfl, ho, b1⟩
  rw [HNE.out] at ho ⊢
  replace Xs := Lib.hid (box_below Xs.out b1)
  replace Xt := Lib.hid (box_below Xt.out b1)
  replace hR := hR.below b1
  replace hT := hT.below b1
  replace hQ := hQ.below b1
  replace HB := Lib.hid (HB.out.trans (b1.mono HB.out.size))
  clear b1
  have s1 := HB.out.size
  have HI := Lib.hid (IntR.mk ho.ints (by omega))
  have HOB := Lib.hid (fun i => tbl_bd HTO.out HO.out.d i)
  clear ho
  have HR := Lib.hid hR
  have HT := Lib.hid hT
  have HQ := Lib.hid hQ
  clear hR hT hQ
  have ls := lt_of_block Xs.out
  have cs0 := box_cell Xs.out 0 _ rfl
  have cs1 := box_cell Xs.out 1 _ rfl
  have cs2 := box_cell Xs.out 2 _ rfl
  have lt := lt_of_block Xt.out
  have ct0 := box_cell Xt.out 0 _ rfl
  have ct1 := box_cell Xt.out 1 _ rfl
  have ct2 := box_cell Xt.out 2 _ rfl
  have ct3 := box_cell Xt.out 3 _ rfl
  go_wp2
  clear ls cs0 cs1 cs2 lt ct0 ct1 ct2 ct3
  go_loopw [7, 24] (fun b i wr => ∃ j : Nat, j ≤ r ∧ i = .int .i64 j ∧ b = .int .i64 (gapN D ts t j) ∧ Hid (Below w1.heap.size w1 wr)) (fun _ i _ => r - (intOf i).toNat)
  case atStart => exact ⟨0, Nat.zero_le _, rfl, rfl, Lib.hid (Below.refl _ _)⟩
  case round =>
    obtain ⟨j, hj, rfl, rfl, HW⟩ := hrel
    by_cases hlt : j < r
    · obtain ⟨ad, rfl, V', m', d', U', k', e', c0, c1, c2, c3, hu⟩ := (HQ.out.below HW.out).at_ hlt
      have bj := below_new wr (.cells #[.int .i64 (tX ts j).lv, .slice V' m' d', .slice U' k' e', .int .i64 (tX ts j).sum] 56)
      have XN := Lib.hid (box_new wr #[.int .i64 (tX ts j).lv, .slice V' m' d', .slice U' k' e', .int .i64 (tX ts j).sum] 56)
      have HU := Lib.hid (hu.below bj)
      have XS := Lib.hid (box_below (box_below Xs.out HW.out) bj)
      have XT := Lib.hid (box_below (box_below Xt.out HW.out) bj)
      have HW2 := Lib.hid (HW.out.trans (bj.mono HW.out.size))
      clear hu bj HW
      have HY := Lib.hid (gapN_yes (D := D) (ts := ts) (t := t) (k := j))
      have HNO := Lib.hid (gapN_no (D := D) (ts := ts) (t := t) (k := j))
      have hK : kindT (tX ts j) t = (((tX ts j).lv == t.lv) && (((tX ts j).sum == t.sum) && ((tX ts j).vars == t.vars))) := rfl
      have HK := Lib.hid hK
      clear hK
      cases hl : ((tX ts j).lv == t.lv)
      · have R := Lib.hid (HNO.out (by rw [HK.out, hl]; simp))
        have ql : ((tX ts j).lv != t.lv) = true := by rw [bne, hl]; rfl
        replace hl := Lib.hid hl
        clear HY HNO HK
        have ls := lt_of_block XS.out
        have qs0 := box_cell XS.out 0 _ rfl
        have qs1 := box_cell XS.out 1 _ rfl
        have qs2 := box_cell XS.out 2 _ rfl
        have lt := lt_of_block XT.out
        have qt0 := box_cell XT.out 0 _ rfl
        have qt1 := box_cell XT.out 1 _ rfl
        have qt2 := box_cell XT.out 2 _ rfl
        have qt3 := box_cell XT.out 3 _ rfl
        have ln := lt_of_block XN.out
        have qn0 := box_cell XN.out 0 _ rfl
        have qn1 := box_cell XN.out 1 _ rfl
        have qn2 := box_cell XN.out 2 _ rfl
        have qn3 := box_cell XN.out 3 _ rfl
        go_wp2
        go_roundw
        case rel => exact ⟨j + 1, by omega, by go_num, by rw [R.out], HW2⟩
        case measure => simp [intOf]; omega
      have ql : ((tX ts j).lv != t.lv) = false := by rw [bne, hl]; rfl
      replace hl := Lib.hid hl
      cases hv : ((tX ts j).vars == t.vars)
      · have R := Lib.hid (HNO.out (by rw [HK.out, hl.out, hv]; simp))
        replace hv := Lib.hid hv
        clear HY HNO HK
        have ls := lt_of_block XS.out
        have qs0 := box_cell XS.out 0 _ rfl
        have qs1 := box_cell XS.out 1 _ rfl
        have qs2 := box_cell XS.out 2 _ rfl
        have lt := lt_of_block XT.out
        have qt0 := box_cell XT.out 0 _ rfl
        have qt1 := box_cell XT.out 1 _ rfl
        have qt2 := box_cell XT.out 2 _ rfl
        have qt3 := box_cell XT.out 3 _ rfl
        have ln := lt_of_block XN.out
        have qn0 := box_cell XN.out 0 _ rfl
        have qn1 := box_cell XN.out 1 _ rfl
        have qn2 := box_cell XN.out 2 _ rfl
        have qn3 := box_cell XN.out 3 _ rfl
        go_wp2_with fail
        clear ls qs0 qs1 qs2 lt qt0 qt1 qt2 qt3 ln qn0 qn1 qn2 qn3
        clear c0 c1 c2 c3
        generalize wr.alloc (.cells #[.int .i64 (tX ts j).lv, .slice V' m' d', .slice U' k' e', .int .i64 (tX ts j).sum] 56) = w4 at *
        refine (l1Same_any V' V m' d' tm td (tX ts j).vars t.vars _ HU.out.v (HT.out.v.below HW2.out)).mono ?_
        rintro e w5 ⟨rfl, b5⟩
        rw [hv.out]
        replace XS := Lib.hid (box_below XS.out b5)
        replace XT := Lib.hid (box_below XT.out b5)
        replace XN := Lib.hid (box_below XN.out b5)
        replace HU := Lib.hid (HU.out.below b5)
        replace HW2 := Lib.hid (HW2.out.trans (b5.mono HW2.out.size))
        clear b5
        have ls := lt_of_block XS.out
        have qs0 := box_cell XS.out 0 _ rfl
        have qs1 := box_cell XS.out 1 _ rfl
        have qs2 := box_cell XS.out 2 _ rfl
        have lt := lt_of_block XT.out
        have qt0 := box_cell XT.out 0 _ rfl
        have qt1 := box_cell XT.out 1 _ rfl
        have qt2 := box_cell XT.out 2 _ rfl
        have qt3 := box_cell XT.out 3 _ rfl
        have ln := lt_of_block XN.out
        have qn0 := box_cell XN.out 0 _ rfl
        have qn1 := box_cell XN.out 1 _ rfl
        have qn2 := box_cell XN.out 2 _ rfl
        have qn3 := box_cell XN.out 3 _ rfl
        go_wp2
        go_roundw
        case rel => exact ⟨j + 1, by omega, by go_num, by rw [R.out], HW2⟩
        case measure => simp [intOf]; omega
      replace hv := Lib.hid hv
      cases hs : ((tX ts j).sum == t.sum)
      · have R := Lib.hid (HNO.out (by rw [HK.out, hl.out, hv.out, hs]; simp))
        have qs : ((tX ts j).sum != t.sum) = true := by rw [bne, hs]; rfl
        replace hs := Lib.hid hs
        clear HY HNO HK
        have ls := lt_of_block XS.out
        have qs0 := box_cell XS.out 0 _ rfl
        have qs1 := box_cell XS.out 1 _ rfl
        have qs2 := box_cell XS.out 2 _ rfl
        have lt := lt_of_block XT.out
        have qt0 := box_cell XT.out 0 _ rfl
        have qt1 := box_cell XT.out 1 _ rfl
        have qt2 := box_cell XT.out 2 _ rfl
        have qt3 := box_cell XT.out 3 _ rfl
        have ln := lt_of_block XN.out
        have qn0 := box_cell XN.out 0 _ rfl
        have qn1 := box_cell XN.out 1 _ rfl
        have qn2 := box_cell XN.out 2 _ rfl
        have qn3 := box_cell XN.out 3 _ rfl
        go_wp2_with fail
        clear ls qs0 qs1 qs2 lt qt0 qt1 qt2 qt3 ln qn0 qn1 qn2 qn3
        clear c0 c1 c2 c3
        generalize wr.alloc (.cells #[.int .i64 (tX ts j).lv, .slice V' m' d', .slice U' k' e', .int .i64 (tX ts j).sum] 56) = w4 at *
        refine (l1Same_any V' V m' d' tm td (tX ts j).vars t.vars _ HU.out.v (HT.out.v.below HW2.out)).mono ?_
        rintro e w5 ⟨rfl, b5⟩
        rw [hv.out]
        replace XS := Lib.hid (box_below XS.out b5)
        replace XT := Lib.hid (box_below XT.out b5)
        replace XN := Lib.hid (box_below XN.out b5)
        replace HU := Lib.hid (HU.out.below b5)
        replace HW2 := Lib.hid (HW2.out.trans (b5.mono HW2.out.size))
        clear b5
        have ls := lt_of_block XS.out
        have qs0 := box_cell XS.out 0 _ rfl
        have qs1 := box_cell XS.out 1 _ rfl
        have qs2 := box_cell XS.out 2 _ rfl
        have lt := lt_of_block XT.out
        have qt0 := box_cell XT.out 0 _ rfl
        have qt1 := box_cell XT.out 1 _ rfl
        have qt2 := box_cell XT.out 2 _ rfl
        have qt3 := box_cell XT.out 3 _ rfl
        have ln := lt_of_block XN.out
        have qn0 := box_cell XN.out 0 _ rfl
        have qn1 := box_cell XN.out 1 _ rfl
        have qn2 := box_cell XN.out 2 _ rfl
        have qn3 := box_cell XN.out 3 _ rfl
        go_wp2
        go_roundw
        case rel => exact ⟨j + 1, by omega, by go_num, by rw [R.out], HW2⟩
        case measure => simp [intOf]; omega
      have qs : ((tX ts j).sum != t.sum) = false := by rw [bne, hs]; rfl
      replace hs := Lib.hid hs
      have hkk : kindT (tX ts j) t = true := by rw [HK.out, hl.out, hv.out, hs.out]; rfl
      have RY := Lib.hid (HY.out hkk)
      have HNU := Lib.hid (show (cntV D.par D.vs (tX ts j)).toNat = N by rw [kindT_cnt _ _ hkk]; exact HNE.out)
      clear HY HNO HK hkk
      have ls := lt_of_block XS.out
      have qs0 := box_cell XS.out 0 _ rfl
      have qs1 := box_cell XS.out 1 _ rfl
      have qs2 := box_cell XS.out 2 _ rfl
      have lt := lt_of_block XT.out
      have qt0 := box_cell XT.out 0 _ rfl
      have qt1 := box_cell XT.out 1 _ rfl
      have qt2 := box_cell XT.out 2 _ rfl
      have qt3 := box_cell XT.out 3 _ rfl
      have ln := lt_of_block XN.out
      have qn0 := box_cell XN.out 0 _ rfl
      have qn1 := box_cell XN.out 1 _ rfl
      have qn2 := box_cell XN.out 2 _ rfl
      have qn3 := box_cell XN.out 3 _ rfl
      go_wp2_with fail
      clear ls qs0 qs1 qs2 lt qt0 qt1 qt2 qt3 ln qn0 qn1 qn2 qn3
      clear c0 c1 c2 c3
      generalize wr.alloc (.cells #[.int .i64 (tX ts j).lv, .slice V' m' d', .slice U' k' e', .int .i64 (tX ts j).sum] 56) = w4 at *
      refine (l1Same_any V' V m' d' tm td (tX ts j).vars t.vars _ HU.out.v (HT.out.v.below HW2.out)).mono ?_
      rintro e w5 ⟨rfl, b5⟩
      rw [hv.out]
      replace XS := Lib.hid (box_below XS.out b5)
      replace XT := Lib.hid (box_below XT.out b5)
      replace XN := Lib.hid (box_below XN.out b5)
      replace HU := Lib.hid (HU.out.below b5)
      replace HW2 := Lib.hid (HW2.out.trans (b5.mono HW2.out.size))
      clear b5
      have ls := lt_of_block XS.out
      have qs0 := box_cell XS.out 0 _ rfl
      have qs1 := box_cell XS.out 1 _ rfl
      have qs2 := box_cell XS.out 2 _ rfl
      have lt := lt_of_block XT.out
      have qt0 := box_cell XT.out 0 _ rfl
      have qt1 := box_cell XT.out 1 _ rfl
      have qt2 := box_cell XT.out 2 _ rfl
      have qt3 := box_cell XT.out 3 _ rfl
      have ln := lt_of_block XN.out
      have qn0 := box_cell XN.out 0 _ rfl
      have qn1 := box_cell XN.out 1 _ rfl
      have qn2 := box_cell XN.out 2 _ rfl
      have qn3 := box_cell XN.out 3 _ rfl
      go_wp2_with fail
      clear ls qs0 qs1 qs2 lt qt0 qt1 qt2 qt3 ln qn0 qn1 qn2 qn3
      have HUO := Lib.hid (HTS.out j hlt)
      refine (uTable_any P A V' U' Z g cg n c m' d' k' e' m cm D.par (tX ts j) D.vs D.rs _ HUO.out HO.out.d (HR.out.p.below HW2.out) (HR.out.s.below HW2.out) HU.out (HR.out.d.below HW2.out)).mono ?_
      rintro e w6 ⟨O2, oc2, rfl, ho2, b6⟩
      rw [HNU.out] at ho2 ⊢
      have HI2 := Lib.hid (IntR.mk ho2.ints (by omega))
      have HOB2 := Lib.hid (fun i => tbl_bd HUO.out HO.out.d i)
      have HI1 := Lib.hid ((HI.out.below HW2.out).below b6)
      have HW6 := Lib.hid (HW2.out.trans (b6.mono HW2.out.size))
      have HE := Lib.hid (show gapN D ts t (j + 1) = gapC (D.tbl t) (D.tbl (tX ts j)) (gapN D ts t j) N by rw [RY.out]; congr 1; unfold SvD.tbl; rw [tblV_len]; exact HNU.out)
      clear ho2 b6 XS XT XN HU HW2 RY hl hv hs ql qs
      generalize gapN D ts t j = b0 at *
      go_wp2
      go_loopw [7, 57] (fun b i wr => ∃ (k2 aa : Nat), k2 ≤ N ∧ i = .int .i64 k2 ∧ b = .int .i64 (gapC (D.tbl t) (D.tbl (tX ts j)) b0 k2) ∧ wr = w6.drewN aa) (fun _ i _ => N - (intOf i).toNat)
      case atStart => exact ⟨0, 0, Nat.zero_le _, rfl, rfl, rfl⟩
      case round =>
        obtain ⟨k2, aa, hk2, rfl, rfl, rfl⟩ := hrel
        by_cases hlt2 : k2 < N
        · obtain ⟨ao, rfl, hco⟩ := HI1.out.i.at_ hlt2
          obtain ⟨av, rfl, hcv⟩ := HI2.out.i.at_ hlt2
          have hb1 := HOB.out k2
          have hb2 := HOB2.out k2
          have HS := Lib.hid (show gapC (D.tbl t) (D.tbl (tX ts j)) b0 (k2 + 1) = fewS (gapC (D.tbl t) (D.tbl (tX ts j)) b0 k2) (absG ((D.tbl (tX ts j))[k2]?.getD 0 - (D.tbl t)[k2]?.getD 0)) from rfl)
          have HT1 := Lib.hid (show (D.tbl t)[k2]?.getD 0 = (tblV D.par D.vs t D.rs)[k2]?.getD 0 from rfl)
          have HT2 := Lib.hid (show (D.tbl (tX ts j))[k2]?.getD 0 = (tblV D.par D.vs (tX ts j) D.rs)[k2]?.getD 0 from rfl)
          rw [HT1.out, HT2.out] at HS
          clear HT1 HT2
          generalize (tblV D.par D.vs t D.rs)[k2]?.getD 0 = x at *
          generalize (tblV D.par D.vs (tX ts j) D.rs)[k2]?.getD 0 = y at *
          generalize gapC (D.tbl t) (D.tbl (tX ts j)) b0 k2 = b at *
          have hd0 : 0 ≤ absG (y - x) := by unfold absG; split <;> omega
          go_wp2_with fail
          refine (l1Abs_G (y - x) _ (by omega) (by omega)).mono ?_
          rintro e w7 ⟨rfl, rfl⟩
          generalize absG (y - x) = d at *
          by_cases h1 : 0 < d
          · by_cases h2 : b = 0
            · have R := Lib.hid (HS.out.trans (fewS_yes h1 (.inl h2)))
              have hq : (b == 0) = true := by rw [h2]; rfl
              clear HS
              go_wp2
              go_roundw
              case rel => exact ⟨k2 + 1, aa, by omega, by go_num, by rw [R.out], rfl⟩
              case measure => simp [intOf]; omega
            have hq : (b == 0) = false := by rw [beq_eq_false_iff_ne]; exact h2
            by_cases h3 : d < b
            · have R := Lib.hid (HS.out.trans (fewS_yes h1 (.inr h3)))
              clear HS
              go_wp2
              go_roundw
              case rel => exact ⟨k2 + 1, aa, by omega, by go_num, by rw [R.out], rfl⟩
              case measure => simp [intOf]; omega
            · have R := Lib.hid (HS.out.trans (fewS_no (by omega)))
              clear HS
              go_wp2
              go_roundw
              case rel => exact ⟨k2 + 1, aa, by omega, by go_num, by rw [R.out], rfl⟩
              case measure => simp [intOf]; omega
          · have R := Lib.hid (HS.out.trans (fewS_no (by omega)))
            clear HS
            go_wp2
            go_roundw
            case rel => exact ⟨k2 + 1, aa, by omega, by go_num, by rw [R.out], rfl⟩
            case measure => simp [intOf]; omega
        · obtain rfl : k2 = N := by omega
          have HW7 := Lib.hid (below_drewN HW6.out aa)
          clear HI1 HI2 HOB2 HUO HNU HW6
          go_wp2
          go_roundw
          case rel => exact ⟨j + 1, by omega, by go_num, by rw [HE.out], HW7⟩
          case measure => simp [intOf]; omega
    · obtain rfl : j = r := by omega
      go_wp2
      go_ret
      exact ⟨ret_int HG.out.symm, HB.out.trans (HW.out.mono s1)⟩
end Go.Proofs.YtfanpbfmnckmnaaGreat
