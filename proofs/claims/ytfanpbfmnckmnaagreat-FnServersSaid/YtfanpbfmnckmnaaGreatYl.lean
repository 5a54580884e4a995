/- Several small texts in one: GapA, CodA. -/
import Derived.Test.YtfanpbfmnckmnaaGreatTbo
import Derived.Test.YtfanpbfmnckmnaaGreatYg
import Derived.Test.YtfanpbfmnckmnaaGreatFewest
import Derived.RegionTactic
import Derived.BigRegion
import Derived.Deep.RegionHeld3
import Derived.BigQuiet
namespace Go.Proofs.YtfanpbfmnckmnaaGreat

section
open Go.RowKit

/-- Geography, schema and survey of a server are valid. -/
structure SurOk (D : SvD) : Prop where
  g : geoB D.par = true
  s : schB D.vs = true
  d : surB D.par D.vs D.rs = true
/-- What they read as. -/
structure SurR (w : World) (P A Z : Option Addr) (g n c m : Nat) (D : SvD) : Prop where
  p : IntR w P g D.par
  s : SchR w A n c D.vs
  d : DatR w Z m D.rs
theorem SurR.below {w w' : World} {P A Z : Option Addr} {g n c m : Nat} {D : SvD} (h : SurR w P A Z g n c m D) (hb : Below w.heap.size w w') : SurR w' P A Z g n c m D := ⟨h.p.below hb, h.s.below hb, h.d.below hb⟩
theorem SurOk.tab {D : SvD} {w : World} {P A Z : Option Addr} {g n c m : Nat} {t : TabD} (h : SurOk D) (hr : SurR w P A Z g n c m D) (ht : tabB D.par D.vs t = true) : TabOk D.par D.vs t g n := by
  have h1 := tabB_ok h.g h.s ht
  rw [hr.p.len, hr.s.len] at h1
  exact h1
theorem l1Most_G (a b : Int) (w : World) : Calls Tryz.prog 179 #[.int .i64 a, .int .i64 b] w fun e w' => e = .returned (.int .i64 (if b < a then a else b)) ∧ w = w' := by
  go_enter Tryz.func179, Tryz.ntmps179
  by_cases h : b < a
  · rw [if_pos h]
    go_wp2
    go_ret
    exact ⟨rfl, rfl⟩
  · rw [if_neg h]
    go_wp2
    go_ret
    exact ⟨rfl, rfl⟩
theorem l1Abs_G (a : Int) (w : World) (h0 : -1000000 ≤ a) (h1 : a ≤ 1000000) : Calls Tryz.prog 136 #[.int .i64 a] w fun e w' => e = .returned (.int .i64 (absG a)) ∧ w = w' := by
  have R := Lib.hid (show (if -a < a then a else -a) = absG a by unfold absG; split <;> split <;> omega)
  go_enter Tryz.func136, Tryz.ntmps136
  go_wp2_with fail
  refine (l1Most_G a (-a) _).mono ?_
  rintro e w1 ⟨rfl, rfl⟩
  rw [R.out]
  go_wp2
  go_ret
  exact ⟨rfl, rfl⟩
theorem kindT_cnt {a b : TabD} (ps : List Int) (vs : List (ByteArray × Int)) (h : kindT a b = true) : cntV ps vs a = cntV ps vs b := by
  unfold kindT at h
  simp only [Bool.and_eq_true, beq_iff_eq] at h
  unfold cntV
  rw [h.1, h.2.2]
theorem gapN_yes {D : SvD} {ts : List TabD} {t : TabD} {k : Nat} (h : kindT (tX ts k) t = true) : gapN D ts t (k + 1) = gapC (D.tbl t) (D.tbl (tX ts k)) (gapN D ts t k) (D.tbl (tX ts k)).length := by rw [gapN, if_pos h]
theorem gapN_no {D : SvD} {ts : List TabD} {t : TabD} {k : Nat} (h : kindT (tX ts k) t = false) : gapN D ts t (k + 1) = gapN D ts t k := by rw [gapN, if_neg (by rw [h]; simp)]
theorem tbl_bd {ps : List Int} {vs : List (ByteArray × Int)} {rs : List RecD} {t : TabD} {g n : Nat} (h : TabOk ps vs t g n) (hs : surB ps vs rs = true) (i : Nat) : 0 ≤ (tblV ps vs t rs)[i]?.getD 0 ∧ (tblV ps vs t rs)[i]?.getD 0 ≤ 280 := by
  have h1 := tblN_bd h (sur_data hs) rs.length (Nat.le_refl _) i
  have h2 := (dataB_of (sur_data hs)).1
  unfold tblV
  omega
theorem tblV_len {ps : List Int} {vs : List (ByteArray × Int)} {rs : List RecD} {t : TabD} : (tblV ps vs t rs).length = (cntV ps vs t).toNat := tblN_len _

set_option maxRecDepth 100000 in
set_option maxHeartbeats 2000000 in
theorem leastGap_any (P A Z Y Q : Option Addr) (g cg n c m cm p cp q cq : Nat) (D : SvD) (V U : Option Addr) (tm td tk te : Nat) (t : TabD) (ts : List TabD) (w : World) (hO : SurOk D) (ht : tabB D.par D.vs t = true) (hts : ∀ j, j < q → tabB D.par D.vs (tX ts j) = true) (hR : SurR w P A Z g n c m D) (hT : TabR w V tm U tk t) (hQ : TabsR w Q q ts) :
    Calls Tryz.prog 77 #[.agg #[.slice P g cg, .slice A n c, .slice Z m cm, .slice Y p cp, .int .i64 D.cost.a, .int .i64 D.cost.b, .int .i64 D.cost.c, .int .i64 D.cost.d, .int .i64 D.bud.a, .int .i64 D.bud.b, .int .i64 D.bud.c, .int .i64 D.bud.d, .int .i64 D.floor, .slice Q q cq], .agg #[.int .i64 t.lv, .slice V tm td, .slice U tk te, .int .i64 t.sum]] w fun e w' => e = .returned (.int .i64 (gapV D ts t)) ∧ Below w.heap.size w w' := by
  have HO := Lib.hid hO
  have HTO := Lib.hid (hO.tab hR ht)
  have HTS := Lib.hid (fun j (hj : j < q) => hO.tab hR (hts j hj))
  have hq := hQ.bd
  have HL := Lib.hid hQ.len
  have HG := Lib.hid (show gapV D ts t = gapN D ts t q by unfold gapV; rw [HL.out])
  have hN := HTO.out.cntN
  obtain ⟨N, hNe⟩ : ∃ N, (cntV D.par D.vs t).toNat = N := ⟨_, rfl⟩
  have HNE := Lib.hid hNe
  rw [hNe] at hN
  have hN1 := hN.2
  clear hN hNe hO ht hts
  obtain ⟨b0, xs, xt⟩ := box_two w #[.slice P g cg, .slice A n c, .slice Z m cm, .slice Y p cp, .int .i64 D.cost.a, .int .i64 D.cost.b, .int .i64 D.cost.c, .int .i64 D.cost.d, .int .i64 D.bud.a, .int .i64 D.bud.b, .int .i64 D.bud.c, .int .i64 D.bud.d, .int .i64 D.floor, .slice Q q cq] #[.int .i64 t.lv, .slice V tm td, .slice U tk te, .int .i64 t.sum] 44 56
  replace hR := hR.below b0
  replace hT := hT.below b0
  replace hQ := hQ.below b0
  have HB := Lib.hid b0
  have Xs := Lib.hid xs
  have Xt := Lib.hid xt
  clear b0 xs xt
  go_enter Tryz.func77, Tryz.ntmps77
  have ls := lt_of_block Xs.out
  have cs0 := bxc Xs.out 0 _ rfl
  have cs1 := bxc Xs.out 1 _ rfl
  have cs2 := bxc Xs.out 2 _ rfl
  have cs13 := bxc Xs.out 13 _ rfl
  have lt := lt_of_block Xt.out
  have ct0 := bxc Xt.out 0 _ rfl
  have ct1 := bxc Xt.out 1 _ rfl
  have ct2 := bxc Xt.out 2 _ rfl
  have ct3 := bxc Xt.out 3 _ rfl
  go_wp2_with fail
  clear ls cs0 cs1 cs2 cs13 lt ct0 ct1 ct2 ct3
  generalize (w.alloc (.cells #[.slice P g cg, .slice A n c, .slice Z m cm, .slice Y p cp, .int .i64 D.cost.a, .int .i64 D.cost.b, .int .i64 D.cost.c, .int .i64 D.cost.d, .int .i64 D.bud.a, .int .i64 D.bud.b, .int .i64 D.bud.c, .int .i64 D.bud.d, .int .i64 D.floor, .slice Q q cq] 44)).alloc (.cells #[.int .i64 t.lv, .slice V tm td, .slice U tk te, .int .i64 t.sum] 56) = w0 at *
  refine (tableOf_any P A V U Z g cg n c tm td tk te m cm D.par t D.vs D.rs _ HTO.out HO.out.d hR.p hR.s hT hR.d).mono ?_
  rintro e w1 ⟨O, oc, rfl, ho, b1⟩
  rw [HNE.out] at ho ⊢
  replace Xs := Lib.hid (bxb Xs.out b1)
  replace Xt := Lib.hid (bxb Xt.out b1)
  replace hR := hR.below b1
  replace hT := hT.below b1
  replace hQ := hQ.below b1
  replace HB := Lib.hid (HB.out.trans (b1.mono HB.out.size))
  clear b1
  have s1 := HB.out.size
  have HI := Lib.hid (IntR.mk ho.ints (by omega))
  have HOB := Lib.hid (fun i => tbl_bd HTO.out HO.out.d i)
  clear ho
  have HR := Lib.hid hR
  have HT := Lib.hid hT
  have HQ := Lib.hid hQ
  clear hR hT hQ
  have ls := lt_of_block Xs.out
  have cs0 := bxc Xs.out 0 _ rfl
  have cs1 := bxc Xs.out 1 _ rfl
  have cs2 := bxc Xs.out 2 _ rfl
  have cs13 := bxc Xs.out 13 _ rfl
  have lt := lt_of_block Xt.out
  have ct0 := bxc Xt.out 0 _ rfl
  have ct1 := bxc Xt.out 1 _ rfl
  have ct2 := bxc Xt.out 2 _ rfl
  have ct3 := bxc Xt.out 3 _ rfl
  go_wp2
  clear ls cs0 cs1 cs2 cs13 lt ct0 ct1 ct2 ct3
  go_loopw [5, 23] (fun b i wr => ∃ j : Nat, j ≤ q ∧ i = .int .i64 j ∧ b = .int .i64 (gapN D ts t j) ∧ Hid (Below w1.heap.size w1 wr)) (fun _ i _ => q - (intOf i).toNat)
  case atStart => exact ⟨0, Nat.zero_le _, rfl, rfl, Lib.hid (Below.refl _ _)⟩
  case round =>
    obtain ⟨j, hj, rfl, rfl, HW⟩ := hrel
    by_cases hlt : j < q
    · obtain ⟨ad, rfl, V', m', d', U', k', e', c0, c1, c2, c3, hu⟩ := (HQ.out.below HW.out).at_ hlt
      have bj := below_new wr (.cells #[.int .i64 (tX ts j).lv, .slice V' m' d', .slice U' k' e', .int .i64 (tX ts j).sum] 56)
      have XN := Lib.hid (box_new wr #[.int .i64 (tX ts j).lv, .slice V' m' d', .slice U' k' e', .int .i64 (tX ts j).sum] 56)
      have HU := Lib.hid (hu.below bj)
      have XS := Lib.hid (bxb (bxb Xs.out HW.out) bj)
      have XT := Lib.hid (bxb (bxb Xt.out HW.out) bj)
      have HW2 := Lib.hid (HW.out.trans (bj.mono HW.out.size))
      clear hu bj HW
      have HY := Lib.hid (gapN_yes (D := D) (ts := ts) (t := t) (k := j))
      have HNO := Lib.hid (gapN_no (D := D) (ts := ts) (t := t) (k := j))
      have hK : kindT (tX ts j) t = (((tX ts j).lv == t.lv) && (((tX ts j).sum == t.sum) && ((tX ts j).vars == t.vars))) := rfl
      have HK := Lib.hid hK
      clear hK
      cases hl : ((tX ts j).lv == t.lv)
      · have R := Lib.hid (HNO.out (by rw [HK.out, hl]; simp))
        have ql : ((tX ts j).lv != t.lv) = true := by rw [bne, hl]; rfl
        replace hl := Lib.hid hl
        clear HY HNO HK
        have ls := lt_of_block XS.out
        have qs0 := bxc XS.out 0 _ rfl
        have qs1 := bxc XS.out 1 _ rfl
        have qs2 := bxc XS.out 2 _ rfl
        have lt := lt_of_block XT.out
        have qt0 := bxc XT.out 0 _ rfl
        have qt1 := bxc XT.out 1 _ rfl
        have qt2 := bxc XT.out 2 _ rfl
        have qt3 := bxc XT.out 3 _ rfl
        have ln := lt_of_block XN.out
        have qn0 := bxc XN.out 0 _ rfl
        have qn1 := bxc XN.out 1 _ rfl
        have qn2 := bxc XN.out 2 _ rfl
        have qn3 := bxc XN.out 3 _ rfl
        go_wp2
        go_roundw
        case rel => exact ⟨j + 1, by omega, by go_num, by rw [R.out], HW2⟩
        case measure => simp [intOf]; omega
      have ql : ((tX ts j).lv != t.lv) = false := by rw [bne, hl]; rfl
      replace hl := Lib.hid hl
      cases hs : ((tX ts j).sum == t.sum)
      · have R := Lib.hid (HNO.out (by rw [HK.out, hl.out, hs]; simp))
        have qs : ((tX ts j).sum != t.sum) = true := by rw [bne, hs]; rfl
        replace hs := Lib.hid hs
        clear HY HNO HK
        have ls := lt_of_block XS.out
        have qs0 := bxc XS.out 0 _ rfl
        have qs1 := bxc XS.out 1 _ rfl
        have qs2 := bxc XS.out 2 _ rfl
        have lt := lt_of_block XT.out
        have qt0 := bxc XT.out 0 _ rfl
        have qt1 := bxc XT.out 1 _ rfl
        have qt2 := bxc XT.out 2 _ rfl
        have qt3 := bxc XT.out 3 _ rfl
        have ln := lt_of_block XN.out
        have qn0 := bxc XN.out 0 _ rfl
        have qn1 := bxc XN.out 1 _ rfl
        have qn2 := bxc XN.out 2 _ rfl
        have qn3 := bxc XN.out 3 _ rfl
        go_wp2
        go_roundw
        case rel => exact ⟨j + 1, by omega, by go_num, by rw [R.out], HW2⟩
        case measure => simp [intOf]; omega
      have qs : ((tX ts j).sum != t.sum) = false := by rw [bne, hs]; rfl
      replace hs := Lib.hid hs
      cases hv : ((tX ts j).vars == t.vars)
      · have R := Lib.hid (HNO.out (by rw [HK.out, hl.out, hs.out, hv]; simp))
        replace hv := Lib.hid hv
        clear HY HNO HK
        have ls := lt_of_block XS.out
        have qs0 := bxc XS.out 0 _ rfl
        have qs1 := bxc XS.out 1 _ rfl
        have qs2 := bxc XS.out 2 _ rfl
        have lt := lt_of_block XT.out
        have qt0 := bxc XT.out 0 _ rfl
        have qt1 := bxc XT.out 1 _ rfl
        have qt2 := bxc XT.out 2 _ rfl
        have qt3 := bxc XT.out 3 _ rfl
        have ln := lt_of_block XN.out
        have qn0 := bxc XN.out 0 _ rfl
        have qn1 := bxc XN.out 1 _ rfl
        have qn2 := bxc XN.out 2 _ rfl
        have qn3 := bxc XN.out 3 _ rfl
        go_wp2_with fail
        clear ls qs0 qs1 qs2 lt qt0 qt1 qt2 qt3 ln qn0 qn1 qn2 qn3
        clear c0 c1 c2 c3
        generalize wr.alloc (.cells #[.int .i64 (tX ts j).lv, .slice V' m' d', .slice U' k' e', .int .i64 (tX ts j).sum] 56) = w4 at *
        refine (slEqual_any V' V m' d' tm td (tX ts j).vars t.vars _ HU.out.v (HT.out.v.below HW2.out)).mono ?_
        rintro e w5 ⟨rfl, b5⟩
        rw [hv.out]
        replace XS := Lib.hid (bxb XS.out b5)
        replace XT := Lib.hid (bxb XT.out b5)
        replace XN := Lib.hid (bxb XN.out b5)
        replace HU := Lib.hid (HU.out.below b5)
        replace HW2 := Lib.hid (HW2.out.trans (b5.mono HW2.out.size))
        clear b5
        have ls := lt_of_block XS.out
        have qs0 := bxc XS.out 0 _ rfl
        have qs1 := bxc XS.out 1 _ rfl
        have qs2 := bxc XS.out 2 _ rfl
        have lt := lt_of_block XT.out
        have qt0 := bxc XT.out 0 _ rfl
        have qt1 := bxc XT.out 1 _ rfl
        have qt2 := bxc XT.out 2 _ rfl
        have qt3 := bxc XT.out 3 _ rfl
        have ln := lt_of_block XN.out
        have qn0 := bxc XN.out 0 _ rfl
        have qn1 := bxc XN.out 1 _ rfl
        have qn2 := bxc XN.out 2 _ rfl
        have qn3 := bxc XN.out 3 _ rfl
        go_wp2
        go_roundw
        case rel => exact ⟨j + 1, by omega, by go_num, by rw [R.out], HW2⟩
        case measure => simp [intOf]; omega
      replace hv := Lib.hid hv
      have hkk : kindT (tX ts j) t = true := by rw [HK.out, hl.out, hs.out, hv.out]; rfl
      have RY := Lib.hid (HY.out hkk)
      have HNU := Lib.hid (show (cntV D.par D.vs (tX ts j)).toNat = N by rw [kindT_cnt _ _ hkk]; exact HNE.out)
      clear HY HNO HK hkk
      have ls := lt_of_block XS.out
      have qs0 := bxc XS.out 0 _ rfl
      have qs1 := bxc XS.out 1 _ rfl
      have qs2 := bxc XS.out 2 _ rfl
      have lt := lt_of_block XT.out
      have qt0 := bxc XT.out 0 _ rfl
      have qt1 := bxc XT.out 1 _ rfl
      have qt2 := bxc XT.out 2 _ rfl
      have qt3 := bxc XT.out 3 _ rfl
      have ln := lt_of_block XN.out
      have qn0 := bxc XN.out 0 _ rfl
      have qn1 := bxc XN.out 1 _ rfl
      have qn2 := bxc XN.out 2 _ rfl
      have qn3 := bxc XN.out 3 _ rfl
      go_wp2_with fail
      clear ls qs0 qs1 qs2 lt qt0 qt1 qt2 qt3 ln qn0 qn1 qn2 qn3
      clear c0 c1 c2 c3
      generalize wr.alloc (.cells #[.int .i64 (tX ts j).lv, .slice V' m' d', .slice U' k' e', .int .i64 (tX ts j).sum] 56) = w4 at *
      refine (slEqual_any V' V m' d' tm td (tX ts j).vars t.vars _ HU.out.v (HT.out.v.below HW2.out)).mono ?_
      rintro e w5 ⟨rfl, b5⟩
      rw [hv.out]
      replace XS := Lib.hid (bxb XS.out b5)
      replace XT := Lib.hid (bxb XT.out b5)
      replace XN := Lib.hid (bxb XN.out b5)
      replace HU := Lib.hid (HU.out.below b5)
      replace HW2 := Lib.hid (HW2.out.trans (b5.mono HW2.out.size))
      clear b5
      have ls := lt_of_block XS.out
      have qs0 := bxc XS.out 0 _ rfl
      have qs1 := bxc XS.out 1 _ rfl
      have qs2 := bxc XS.out 2 _ rfl
      have lt := lt_of_block XT.out
      have qt0 := bxc XT.out 0 _ rfl
      have qt1 := bxc XT.out 1 _ rfl
      have qt2 := bxc XT.out 2 _ rfl
      have qt3 := bxc XT.out 3 _ rfl
      have ln := lt_of_block XN.out
      have qn0 := bxc XN.out 0 _ rfl
      have qn1 := bxc XN.out 1 _ rfl
      have qn2 := bxc XN.out 2 _ rfl
      have qn3 := bxc XN.out 3 _ rfl
      go_wp2_with fail
      clear ls qs0 qs1 qs2 lt qt0 qt1 qt2 qt3 ln qn0 qn1 qn2 qn3
      have HUO := Lib.hid (HTS.out j hlt)
      refine (tableOf_any P A V' U' Z g cg n c m' d' k' e' m cm D.par (tX ts j) D.vs D.rs _ HUO.out HO.out.d (HR.out.p.below HW2.out) (HR.out.s.below HW2.out) HU.out (HR.out.d.below HW2.out)).mono ?_
      rintro e w6 ⟨O2, oc2, rfl, ho2, b6⟩
      rw [HNU.out] at ho2 ⊢
      have HI2 := Lib.hid (IntR.mk ho2.ints (by omega))
      have HOB2 := Lib.hid (fun i => tbl_bd HUO.out HO.out.d i)
      have HI1 := Lib.hid ((HI.out.below HW2.out).below b6)
      have HW6 := Lib.hid (HW2.out.trans (b6.mono HW2.out.size))
      have HE := Lib.hid (show gapN D ts t (j + 1) = gapC (D.tbl t) (D.tbl (tX ts j)) (gapN D ts t j) N by rw [RY.out]; congr 1; unfold SvD.tbl; rw [tblV_len]; exact HNU.out)
      clear ho2 b6 XS XT XN HU HW2 RY hl hv hs ql qs
      generalize gapN D ts t j = b0 at *
      go_wp2
      go_loopw [5, 56] (fun b i wr => ∃ (k2 aa : Nat), k2 ≤ N ∧ i = .int .i64 k2 ∧ b = .int .i64 (gapC (D.tbl t) (D.tbl (tX ts j)) b0 k2) ∧ wr = w6.drewN aa) (fun _ i _ => N - (intOf i).toNat)
      case atStart => exact ⟨0, 0, Nat.zero_le _, rfl, rfl, rfl⟩
      case round =>
        obtain ⟨k2, aa, hk2, rfl, rfl, rfl⟩ := hrel
        by_cases hlt2 : k2 < N
        · obtain ⟨ao, rfl, hco⟩ := HI1.out.i.at_ hlt2
          obtain ⟨av, rfl, hcv⟩ := HI2.out.i.at_ hlt2
          have hb1 := HOB.out k2
          have hb2 := HOB2.out k2
          have HS := Lib.hid (show gapC (D.tbl t) (D.tbl (tX ts j)) b0 (k2 + 1) = fewS (gapC (D.tbl t) (D.tbl (tX ts j)) b0 k2) (absG ((D.tbl (tX ts j))[k2]?.getD 0 - (D.tbl t)[k2]?.getD 0)) from rfl)
          have HT1 := Lib.hid (show (D.tbl t)[k2]?.getD 0 = (tblV D.par D.vs t D.rs)[k2]?.getD 0 from rfl)
          have HT2 := Lib.hid (show (D.tbl (tX ts j))[k2]?.getD 0 = (tblV D.par D.vs (tX ts j) D.rs)[k2]?.getD 0 from rfl)
          rw [HT1.out, HT2.out] at HS
          clear HT1 HT2
          generalize (tblV D.par D.vs t D.rs)[k2]?.getD 0 = x at *
          generalize (tblV D.par D.vs (tX ts j) D.rs)[k2]?.getD 0 = y at *
          generalize gapC (D.tbl t) (D.tbl (tX ts j)) b0 k2 = b at *
          have hw1 : IntKind.i64.wrap (y - x) = y - x := IntWalk.i64_in _ (by omega)
          have hw2 : IntKind.i64.wrap (x - y) = x - y := IntWalk.i64_in _ (by omega)
          by_cases hm : x - y ≤ y - x
          · have HA := Lib.hid (show absG (y - x) = y - x by unfold absG; rw [if_neg (by omega)])
            rw [HA.out] at HS
            clear HA
            by_cases h1 : 0 < y - x
            · by_cases h2 : b = 0
              · have R := Lib.hid (HS.out.trans (fewS_yes h1 (.inl h2)))
                have hq : (b == 0) = true := by rw [h2]; rfl
                clear HS
                go_wp2
                go_region
                go_wp2
                go_roundw
                case rel => exact ⟨k2 + 1, _, by omega, by go_num, by rw [R.out], rfl⟩
                case measure => simp [intOf]; omega
              have hq : (b == 0) = false := by rw [beq_eq_false_iff_ne]; exact h2
              by_cases h3 : y - x < b
              · have R := Lib.hid (HS.out.trans (fewS_yes h1 (.inr h3)))
                clear HS
                go_wp2
                go_region
                go_wp2
                go_roundw
                case rel => exact ⟨k2 + 1, _, by omega, by go_num, by rw [R.out], rfl⟩
                case measure => simp [intOf]; omega
              · have R := Lib.hid (HS.out.trans (fewS_no (by omega)))
                clear HS
                go_wp2
                go_region
                go_wp2
                go_roundw
                case rel => exact ⟨k2 + 1, _, by omega, by go_num, by rw [R.out], rfl⟩
                case measure => simp [intOf]; omega
            · have R := Lib.hid (HS.out.trans (fewS_no (by omega)))
              clear HS
              go_wp2
              go_region
              go_wp2
              go_roundw
              case rel => exact ⟨k2 + 1, _, by omega, by go_num, by rw [R.out], rfl⟩
              case measure => simp [intOf]; omega
          · have HA := Lib.hid (show absG (y - x) = x - y by unfold absG; rw [if_pos (by omega)]; omega)
            rw [HA.out] at HS
            clear HA
            by_cases h1 : 0 < x - y
            · by_cases h2 : b = 0
              · have R := Lib.hid (HS.out.trans (fewS_yes h1 (.inl h2)))
                have hq : (b == 0) = true := by rw [h2]; rfl
                clear HS
                go_wp2
                go_region
                go_wp2
                go_roundw
                case rel => exact ⟨k2 + 1, _, by omega, by go_num, by rw [R.out], rfl⟩
                case measure => simp [intOf]; omega
              have hq : (b == 0) = false := by rw [beq_eq_false_iff_ne]; exact h2
              by_cases h3 : x - y < b
              · have R := Lib.hid (HS.out.trans (fewS_yes h1 (.inr h3)))
                clear HS
                go_wp2
                go_region
                go_wp2
                go_roundw
                case rel => exact ⟨k2 + 1, _, by omega, by go_num, by rw [R.out], rfl⟩
                case measure => simp [intOf]; omega
              · have R := Lib.hid (HS.out.trans (fewS_no (by omega)))
                clear HS
                go_wp2
                go_region
                go_wp2
                go_roundw
                case rel => exact ⟨k2 + 1, _, by omega, by go_num, by rw [R.out], rfl⟩
                case measure => simp [intOf]; omega
            · exfalso
              omega
        · obtain rfl : k2 = N := by omega
          have HW7 := Lib.hid (below_drewN HW6.out aa)
          clear HI1 HI2 HOB2 HUO HNU HW6
          go_wp2
          go_roundw
          case rel => exact ⟨j + 1, by omega, by go_num, by rw [HE.out], HW7⟩
          case measure => simp [intOf]; omega
    · obtain rfl : j = q := by omega
      go_wp2
      go_ret
      exact ⟨ret_int HG.out.symm, HB.out.trans (HW.out.mono s1)⟩

set_option maxRecDepth 100000 in
set_option maxHeartbeats 2000000 in
theorem jGap_any (P A Z Y Q : Option Addr) (g cg n c m cm p cp q cq : Nat) (D : SvD) (V U E : Option Addr) (tm td tk te r ce : Nat) (t : TabD) (ts : List TabD) (w : World) (hO : SurOk D) (ht : tabB D.par D.vs t = true) (hts : ∀ j, j < r → tabB D.par D.vs (tX ts j) = true) (hR : SurR w P A Z g n c m D) (hT : TabR w V tm U tk t) (hQ : TabsR w E r ts) :
    Calls Tryz.prog 74 #[.agg #[.slice P g cg, .slice A n c, .slice Z m cm, .slice Y p cp, .int .i64 D.cost.a, .int .i64 D.cost.b, .int .i64 D.cost.c, .int .i64 D.cost.d, .int .i64 D.bud.a, .int .i64 D.bud.b, .int .i64 D.bud.c, .int .i64 D.bud.d, .int .i64 D.floor, .slice Q q cq], .slice E r ce, .agg #[.int .i64 t.lv, .slice V tm td, .slice U tk te, .int .i64 t.sum]] w fun e w' => e = .returned (.int .i64 (gapV D ts t)) ∧ Below w.heap.size w w' := by
  have HO := Lib.hid hO
  have HTO := Lib.hid (hO.tab hR ht)
  have HTS := Lib.hid (fun j (hj : j < r) => hO.tab hR (hts j hj))
  have hq := hQ.bd
  have HL := Lib.hid hQ.len
  have HG := Lib.hid (show gapV D ts t = gapN D ts t r by unfold gapV; rw [HL.out])
  have hN := HTO.out.cntN
  obtain ⟨N, hNe⟩ : ∃ N, (cntV D.par D.vs t).toNat = N := ⟨_, rfl⟩
  have HNE := Lib.hid hNe
  rw [hNe] at hN
  have hN1 := hN.2
  clear hN hNe hO ht hts
  obtain ⟨b0, xs, xt⟩ := box_two w #[.slice P g cg, .slice A n c, .slice Z m cm, .slice Y p cp, .int .i64 D.cost.a, .int .i64 D.cost.b, .int .i64 D.cost.c, .int .i64 D.cost.d, .int .i64 D.bud.a, .int .i64 D.bud.b, .int .i64 D.bud.c, .int .i64 D.bud.d, .int .i64 D.floor, .slice Q q cq] #[.int .i64 t.lv, .slice V tm td, .slice U tk te, .int .i64 t.sum] 44 56
  replace hR := hR.below b0
  replace hT := hT.below b0
  replace hQ := hQ.below b0
  have HB := Lib.hid b0
  have Xs := Lib.hid xs
  have Xt := Lib.hid xt
  clear b0 xs xt
  go_enter Tryz.func74, Tryz.ntmps74
  have ls := lt_of_block Xs.out
  have cs0 := bxc Xs.out 0 _ rfl
  have cs1 := bxc Xs.out 1 _ rfl
  have cs2 := bxc Xs.out 2 _ rfl
  have lt := lt_of_block Xt.out
  have ct0 := bxc Xt.out 0 _ rfl
  have ct1 := bxc Xt.out 1 _ rfl
  have ct2 := bxc Xt.out 2 _ rfl
  have ct3 := bxc Xt.out 3 _ rfl
  go_wp2_with fail
  clear ls cs0 cs1 cs2 lt ct0 ct1 ct2 ct3
  generalize (w.alloc (.cells #[.slice P g cg, .slice A n c, .slice Z m cm, .slice Y p cp, .int .i64 D.cost.a, .int .i64 D.cost.b, .int .i64 D.cost.c, .int .i64 D.cost.d, .int .i64 D.bud.a, .int .i64 D.bud.b, .int .i64 D.bud.c, .int .i64 D.bud.d, .int .i64 D.floor, .slice Q q cq] 44)).alloc (.cells #[.int .i64 t.lv, .slice V tm td, .slice U tk te, .int .i64 t.sum] 56) = w0 at *
  refine (uTable_any P A V U Z g cg n c tm td tk te m cm D.par t D.vs D.rs _ HTO.out HO.out.d hR.p hR.s hT hR.d).mono ?_
  rintro e w1 ⟨O, oc, rfl, ho, b1⟩
  rw [HNE.out] at ho ⊢
  replace Xs := Lib.hid (bxb Xs.out b1)
  replace Xt := Lib.hid (bxb Xt.out b1)
  replace hR := hR.below b1
  replace hT := hT.below b1
  replace hQ := hQ.below b1
  replace HB := Lib.hid (HB.out.trans (b1.mono HB.out.size))
  clear b1
  have s1 := HB.out.size
  have HI := Lib.hid (IntR.mk ho.ints (by omega))
  have HOB := Lib.hid (fun i => tbl_bd HTO.out HO.out.d i)
  clear ho
  have HR := Lib.hid hR
  have HT := Lib.hid hT
  have HQ := Lib.hid hQ
  clear hR hT hQ
  have ls := lt_of_block Xs.out
  have cs0 := bxc Xs.out 0 _ rfl
  have cs1 := bxc Xs.out 1 _ rfl
  have cs2 := bxc Xs.out 2 _ rfl
  have lt := lt_of_block Xt.out
  have ct0 := bxc Xt.out 0 _ rfl
  have ct1 := bxc Xt.out 1 _ rfl
  have ct2 := bxc Xt.out 2 _ rfl
  have ct3 := bxc Xt.out 3 _ rfl
  go_wp2
  clear ls cs0 cs1 cs2 lt ct0 ct1 ct2 ct3
  go_loopw [7, 24] (fun b i wr => ∃ j : Nat, j ≤ r ∧ i = .int .i64 j ∧ b = .int .i64 (gapN D ts t j) ∧ Hid (Below w1.heap.size w1 wr)) (fun _ i _ => r - (intOf i).toNat)
  case atStart => exact ⟨0, Nat.zero_le _, rfl, rfl, Lib.hid (Below.refl _ _)⟩
  case round =>
    obtain ⟨j, hj, rfl, rfl, HW⟩ := hrel
    by_cases hlt : j < r
    · obtain ⟨ad, rfl, V', m', d', U', k', e', c0, c1, c2, c3, hu⟩ := (HQ.out.below HW.out).at_ hlt
      have bj := below_new wr (.cells #[.int .i64 (tX ts j).lv, .slice V' m' d', .slice U' k' e', .int .i64 (tX ts j).sum] 56)
      have XN := Lib.hid (box_new wr #[.int .i64 (tX ts j).lv, .slice V' m' d', .slice U' k' e', .int .i64 (tX ts j).sum] 56)
      have HU := Lib.hid (hu.below bj)
      have XS := Lib.hid (bxb (bxb Xs.out HW.out) bj)
      have XT := Lib.hid (bxb (bxb Xt.out HW.out) bj)
      have HW2 := Lib.hid (HW.out.trans (bj.mono HW.out.size))
      clear hu bj HW
      have HY := Lib.hid (gapN_yes (D := D) (ts := ts) (t := t) (k := j))
      have HNO := Lib.hid (gapN_no (D := D) (ts := ts) (t := t) (k := j))
      have hK : kindT (tX ts j) t = (((tX ts j).lv == t.lv) && (((tX ts j).sum == t.sum) && ((tX ts j).vars == t.vars))) := rfl
      have HK := Lib.hid hK
      clear hK
      cases hl : ((tX ts j).lv == t.lv)
      · have R := Lib.hid (HNO.out (by rw [HK.out, hl]; simp))
        have ql : ((tX ts j).lv != t.lv) = true := by rw [bne, hl]; rfl
        replace hl := Lib.hid hl
        clear HY HNO HK
        have ls := lt_of_block XS.out
        have qs0 := bxc XS.out 0 _ rfl
        have qs1 := bxc XS.out 1 _ rfl
        have qs2 := bxc XS.out 2 _ rfl
        have lt := lt_of_block XT.out
        have qt0 := bxc XT.out 0 _ rfl
        have qt1 := bxc XT.out 1 _ rfl
        have qt2 := bxc XT.out 2 _ rfl
        have qt3 := bxc XT.out 3 _ rfl
        have ln := lt_of_block XN.out
        have qn0 := bxc XN.out 0 _ rfl
        have qn1 := bxc XN.out 1 _ rfl
        have qn2 := bxc XN.out 2 _ rfl
        have qn3 := bxc XN.out 3 _ rfl
        go_wp2
        go_roundw
        case rel => exact ⟨j + 1, by omega, by go_num, by rw [R.out], HW2⟩
        case measure => simp [intOf]; omega
      have ql : ((tX ts j).lv != t.lv) = false := by rw [bne, hl]; rfl
      replace hl := Lib.hid hl
      cases hv : ((tX ts j).vars == t.vars)
      · have R := Lib.hid (HNO.out (by rw [HK.out, hl.out, hv]; simp))
        replace hv := Lib.hid hv
        clear HY HNO HK
        have ls := lt_of_block XS.out
        have qs0 := bxc XS.out 0 _ rfl
        have qs1 := bxc XS.out 1 _ rfl
        have qs2 := bxc XS.out 2 _ rfl
        have lt := lt_of_block XT.out
        have qt0 := bxc XT.out 0 _ rfl
        have qt1 := bxc XT.out 1 _ rfl
        have qt2 := bxc XT.out 2 _ rfl
        have qt3 := bxc XT.out 3 _ rfl
        have ln := lt_of_block XN.out
        have qn0 := bxc XN.out 0 _ rfl
        have qn1 := bxc XN.out 1 _ rfl
        have qn2 := bxc XN.out 2 _ rfl
        have qn3 := bxc XN.out 3 _ rfl
        go_wp2_with fail
        clear ls qs0 qs1 qs2 lt qt0 qt1 qt2 qt3 ln qn0 qn1 qn2 qn3
        clear c0 c1 c2 c3
        generalize wr.alloc (.cells #[.int .i64 (tX ts j).lv, .slice V' m' d', .slice U' k' e', .int .i64 (tX ts j).sum] 56) = w4 at *
        refine (l1Same_any V' V m' d' tm td (tX ts j).vars t.vars _ HU.out.v (HT.out.v.below HW2.out)).mono ?_
        rintro e w5 ⟨rfl, b5⟩
        rw [hv.out]
        replace XS := Lib.hid (bxb XS.out b5)
        replace XT := Lib.hid (bxb XT.out b5)
        replace XN := Lib.hid (bxb XN.out b5)
        replace HU := Lib.hid (HU.out.below b5)
        replace HW2 := Lib.hid (HW2.out.trans (b5.mono HW2.out.size))
        clear b5
        have ls := lt_of_block XS.out
        have qs0 := bxc XS.out 0 _ rfl
        have qs1 := bxc XS.out 1 _ rfl
        have qs2 := bxc XS.out 2 _ rfl
        have lt := lt_of_block XT.out
        have qt0 := bxc XT.out 0 _ rfl
        have qt1 := bxc XT.out 1 _ rfl
        have qt2 := bxc XT.out 2 _ rfl
        have qt3 := bxc XT.out 3 _ rfl
        have ln := lt_of_block XN.out
        have qn0 := bxc XN.out 0 _ rfl
        have qn1 := bxc XN.out 1 _ rfl
        have qn2 := bxc XN.out 2 _ rfl
        have qn3 := bxc XN.out 3 _ rfl
        go_wp2
        go_roundw
        case rel => exact ⟨j + 1, by omega, by go_num, by rw [R.out], HW2⟩
        case measure => simp [intOf]; omega
      replace hv := Lib.hid hv
      cases hs : ((tX ts j).sum == t.sum)
      · have R := Lib.hid (HNO.out (by rw [HK.out, hl.out, hv.out, hs]; simp))
        have qs : ((tX ts j).sum != t.sum) = true := by rw [bne, hs]; rfl
        replace hs := Lib.hid hs
        clear HY HNO HK
        have ls := lt_of_block XS.out
        have qs0 := bxc XS.out 0 _ rfl
        have qs1 := bxc XS.out 1 _ rfl
        have qs2 := bxc XS.out 2 _ rfl
        have lt := lt_of_block XT.out
        have qt0 := bxc XT.out 0 _ rfl
        have qt1 := bxc XT.out 1 _ rfl
        have qt2 := bxc XT.out 2 _ rfl
        have qt3 := bxc XT.out 3 _ rfl
        have ln := lt_of_block XN.out
        have qn0 := bxc XN.out 0 _ rfl
        have qn1 := bxc XN.out 1 _ rfl
        have qn2 := bxc XN.out 2 _ rfl
        have qn3 := bxc XN.out 3 _ rfl
        go_wp2_with fail
        clear ls qs0 qs1 qs2 lt qt0 qt1 qt2 qt3 ln qn0 qn1 qn2 qn3
        clear c0 c1 c2 c3
        generalize wr.alloc (.cells #[.int .i64 (tX ts j).lv, .slice V' m' d', .slice U' k' e', .int .i64 (tX ts j).sum] 56) = w4 at *
        refine (l1Same_any V' V m' d' tm td (tX ts j).vars t.vars _ HU.out.v (HT.out.v.below HW2.out)).mono ?_
        rintro e w5 ⟨rfl, b5⟩
        rw [hv.out]
        replace XS := Lib.hid (bxb XS.out b5)
        replace XT := Lib.hid (bxb XT.out b5)
        replace XN := Lib.hid (bxb XN.out b5)
        replace HU := Lib.hid (HU.out.below b5)
        replace HW2 := Lib.hid (HW2.out.trans (b5.mono HW2.out.size))
        clear b5
        have ls := lt_of_block XS.out
        have qs0 := bxc XS.out 0 _ rfl
        have qs1 := bxc XS.out 1 _ rfl
        have qs2 := bxc XS.out 2 _ rfl
        have lt := lt_of_block XT.out
        have qt0 := bxc XT.out 0 _ rfl
        have qt1 := bxc XT.out 1 _ rfl
        have qt2 := bxc XT.out 2 _ rfl
        have qt3 := bxc XT.out 3 _ rfl
        have ln := lt_of_block XN.out
        have qn0 := bxc XN.out 0 _ rfl
        have qn1 := bxc XN.out 1 _ rfl
        have qn2 := bxc XN.out 2 _ rfl
        have qn3 := bxc XN.out 3 _ rfl
        go_wp2
        go_roundw
        case rel => exact ⟨j + 1, by omega, by go_num, by rw [R.out], HW2⟩
        case measure => simp [intOf]; omega
      have qs : ((tX ts j).sum != t.sum) = false := by rw [bne, hs]; rfl
      replace hs := Lib.hid hs
      have hkk : kindT (tX ts j) t = true := by rw [HK.out, hl.out, hv.out, hs.out]; rfl
      have RY := Lib.hid (HY.out hkk)
      have HNU := Lib.hid (show (cntV D.par D.vs (tX ts j)).toNat = N by rw [kindT_cnt _ _ hkk]; exact HNE.out)
      clear HY HNO HK hkk
      have ls := lt_of_block XS.out
      have qs0 := bxc XS.out 0 _ rfl
      have qs1 := bxc XS.out 1 _ rfl
      have qs2 := bxc XS.out 2 _ rfl
      have lt := lt_of_block XT.out
      have qt0 := bxc XT.out 0 _ rfl
      have qt1 := bxc XT.out 1 _ rfl
      have qt2 := bxc XT.out 2 _ rfl
      have qt3 := bxc XT.out 3 _ rfl
      have ln := lt_of_block XN.out
      have qn0 := bxc XN.out 0 _ rfl
      have qn1 := bxc XN.out 1 _ rfl
      have qn2 := bxc XN.out 2 _ rfl
      have qn3 := bxc XN.out 3 _ rfl
      go_wp2_with fail
      clear ls qs0 qs1 qs2 lt qt0 qt1 qt2 qt3 ln qn0 qn1 qn2 qn3
      clear c0 c1 c2 c3
      generalize wr.alloc (.cells #[.int .i64 (tX ts j).lv, .slice V' m' d', .slice U' k' e', .int .i64 (tX ts j).sum] 56) = w4 at *
      refine (l1Same_any V' V m' d' tm td (tX ts j).vars t.vars _ HU.out.v (HT.out.v.below HW2.out)).mono ?_
      rintro e w5 ⟨rfl, b5⟩
      rw [hv.out]
      replace XS := Lib.hid (bxb XS.out b5)
      replace XT := Lib.hid (bxb XT.out b5)
      replace XN := Lib.hid (bxb XN.out b5)
      replace HU := Lib.hid (HU.out.below b5)
      replace HW2 := Lib.hid (HW2.out.trans (b5.mono HW2.out.size))
      clear b5
      have ls := lt_of_block XS.out
      have qs0 := bxc XS.out 0 _ rfl
      have qs1 := bxc XS.out 1 _ rfl
      have qs2 := bxc XS.out 2 _ rfl
      have lt := lt_of_block XT.out
      have qt0 := bxc XT.out 0 _ rfl
      have qt1 := bxc XT.out 1 _ rfl
      have qt2 := bxc XT.out 2 _ rfl
      have qt3 := bxc XT.out 3 _ rfl
      have ln := lt_of_block XN.out
      have qn0 := bxc XN.out 0 _ rfl
      have qn1 := bxc XN.out 1 _ rfl
      have qn2 := bxc XN.out 2 _ rfl
      have qn3 := bxc XN.out 3 _ rfl
      go_wp2_with fail
      clear ls qs0 qs1 qs2 lt qt0 qt1 qt2 qt3 ln qn0 qn1 qn2 qn3
      have HUO := Lib.hid (HTS.out j hlt)
      refine (uTable_any P A V' U' Z g cg n c m' d' k' e' m cm D.par (tX ts j) D.vs D.rs _ HUO.out HO.out.d (HR.out.p.below HW2.out) (HR.out.s.below HW2.out) HU.out (HR.out.d.below HW2.out)).mono ?_
      rintro e w6 ⟨O2, oc2, rfl, ho2, b6⟩
      rw [HNU.out] at ho2 ⊢
      have HI2 := Lib.hid (IntR.mk ho2.ints (by omega))
      have HOB2 := Lib.hid (fun i => tbl_bd HUO.out HO.out.d i)
      have HI1 := Lib.hid ((HI.out.below HW2.out).below b6)
      have HW6 := Lib.hid (HW2.out.trans (b6.mono HW2.out.size))
      have HE := Lib.hid (show gapN D ts t (j + 1) = gapC (D.tbl t) (D.tbl (tX ts j)) (gapN D ts t j) N by rw [RY.out]; congr 1; unfold SvD.tbl; rw [tblV_len]; exact HNU.out)
      clear ho2 b6 XS XT XN HU HW2 RY hl hv hs ql qs
      generalize gapN D ts t j = b0 at *
      go_wp2
      go_loopw [7, 57] (fun b i wr => ∃ (k2 aa : Nat), k2 ≤ N ∧ i = .int .i64 k2 ∧ b = .int .i64 (gapC (D.tbl t) (D.tbl (tX ts j)) b0 k2) ∧ wr = w6.drewN aa) (fun _ i _ => N - (intOf i).toNat)
      case atStart => exact ⟨0, 0, Nat.zero_le _, rfl, rfl, rfl⟩
      case round =>
        obtain ⟨k2, aa, hk2, rfl, rfl, rfl⟩ := hrel
        by_cases hlt2 : k2 < N
        · obtain ⟨ao, rfl, hco⟩ := HI1.out.i.at_ hlt2
          obtain ⟨av, rfl, hcv⟩ := HI2.out.i.at_ hlt2
          have hb1 := HOB.out k2
          have hb2 := HOB2.out k2
          have HS := Lib.hid (show gapC (D.tbl t) (D.tbl (tX ts j)) b0 (k2 + 1) = fewS (gapC (D.tbl t) (D.tbl (tX ts j)) b0 k2) (absG ((D.tbl (tX ts j))[k2]?.getD 0 - (D.tbl t)[k2]?.getD 0)) from rfl)
          have HT1 := Lib.hid (show (D.tbl t)[k2]?.getD 0 = (tblV D.par D.vs t D.rs)[k2]?.getD 0 from rfl)
          have HT2 := Lib.hid (show (D.tbl (tX ts j))[k2]?.getD 0 = (tblV D.par D.vs (tX ts j) D.rs)[k2]?.getD 0 from rfl)
          rw [HT1.out, HT2.out] at HS
          clear HT1 HT2
          generalize (tblV D.par D.vs t D.rs)[k2]?.getD 0 = x at *
          generalize (tblV D.par D.vs (tX ts j) D.rs)[k2]?.getD 0 = y at *
          generalize gapC (D.tbl t) (D.tbl (tX ts j)) b0 k2 = b at *
          have hd0 : 0 ≤ absG (y - x) := by unfold absG; split <;> omega
          go_wp2_with fail
          refine (l1Abs_G (y - x) _ (by omega) (by omega)).mono ?_
          rintro e w7 ⟨rfl, rfl⟩
          generalize absG (y - x) = d at *
          by_cases h1 : 0 < d
          · by_cases h2 : b = 0
            · have R := Lib.hid (HS.out.trans (fewS_yes h1 (.inl h2)))
              have hq : (b == 0) = true := by rw [h2]; rfl
              clear HS
              go_wp2
              go_roundw
              case rel => exact ⟨k2 + 1, aa, by omega, by go_num, by rw [R.out], rfl⟩
              case measure => simp [intOf]; omega
            have hq : (b == 0) = false := by rw [beq_eq_false_iff_ne]; exact h2
            by_cases h3 : d < b
            · have R := Lib.hid (HS.out.trans (fewS_yes h1 (.inr h3)))
              clear HS
              go_wp2
              go_roundw
              case rel => exact ⟨k2 + 1, aa, by omega, by go_num, by rw [R.out], rfl⟩
              case measure => simp [intOf]; omega
            · have R := Lib.hid (HS.out.trans (fewS_no (by omega)))
              clear HS
              go_wp2
              go_roundw
              case rel => exact ⟨k2 + 1, aa, by omega, by go_num, by rw [R.out], rfl⟩
              case measure => simp [intOf]; omega
          · have R := Lib.hid (HS.out.trans (fewS_no (by omega)))
            clear HS
            go_wp2
            go_roundw
            case rel => exact ⟨k2 + 1, aa, by omega, by go_num, by rw [R.out], rfl⟩
            case measure => simp [intOf]; omega
        · obtain rfl : k2 = N := by omega
          have HW7 := Lib.hid (below_drewN HW6.out aa)
          clear HI1 HI2 HOB2 HUO HNU HW6
          go_wp2
          go_roundw
          case rel => exact ⟨j + 1, by omega, by go_num, by rw [HE.out], HW7⟩
          case measure => simp [intOf]; omega
    · obtain rfl : j = r := by omega
      go_wp2
      go_ret
      exact ⟨ret_int HG.out.symm, HB.out.trans (HW.out.mono s1)⟩
end

section
open Go.RowKit

section
variable {D : SvD} {ts : List TabD} {t : TabD}
theorem codeV_1 (h : tabB D.par D.vs t = false) : codeV D ts t = 1 := by unfold codeV; rw [if_pos h]
theorem codeV_2 (h1 : tabB D.par D.vs t = true) (h2 : fndT D.plan t < 0) : codeV D ts t = 2 := by unfold codeV; rw [if_neg (by rw [h1]; simp), if_pos h2]
theorem codeV_3 (h1 : tabB D.par D.vs t = true) (h2 : 0 ≤ fndT D.plan t) (h3 : 0 ≤ fndT ts t) : codeV D ts t = 0 := by unfold codeV; rw [if_neg (by rw [h1]; simp), if_neg (Int.not_lt.2 h2), if_pos h3]
theorem codeV_4 (h1 : tabB D.par D.vs t = true) (h2 : 0 ≤ fndT D.plan t) (h3 : fndT ts t < 0) (h4 : fitsB D.cost D.bud (ts.length + 1) = false) : codeV D ts t = 3 := by unfold codeV; rw [if_neg (by rw [h1]; simp), if_neg (Int.not_lt.2 h2), if_neg (Int.not_le.2 h3), if_pos h4]
theorem codeV_5 (h1 : tabB D.par D.vs t = true) (h2 : 0 ≤ fndT D.plan t) (h3 : fndT ts t < 0) (h4 : fitsB D.cost D.bud (ts.length + 1) = true) (h5 : 0 ≤ t.sum) : codeV D ts t = 0 := by unfold codeV; rw [if_neg (by rw [h1]; simp), if_neg (Int.not_lt.2 h2), if_neg (Int.not_le.2 h3), if_neg (by rw [h4]; simp), if_pos h5]
theorem codeV_6 (h1 : tabB D.par D.vs t = true) (h2 : 0 ≤ fndT D.plan t) (h3 : fndT ts t < 0) (h4 : fitsB D.cost D.bud (ts.length + 1) = true) (h5 : t.sum < 0) (h6 : fewB' (fewO (D.tbl t) (D.tbl t).length) D.floor = true) : codeV D ts t = 4 := by unfold codeV; rw [if_neg (by rw [h1]; simp), if_neg (Int.not_lt.2 h2), if_neg (Int.not_le.2 h3), if_neg (by rw [h4]; simp), if_neg (Int.not_le.2 h5), if_pos h6]
theorem codeV_7 (h1 : tabB D.par D.vs t = true) (h2 : 0 ≤ fndT D.plan t) (h3 : fndT ts t < 0) (h4 : fitsB D.cost D.bud (ts.length + 1) = true) (h5 : t.sum < 0) (h6 : fewB' (fewO (D.tbl t) (D.tbl t).length) D.floor = false) (h7 : fewB' (gapV D ts t) D.floor = true) : codeV D ts t = 5 := by unfold codeV; rw [if_neg (by rw [h1]; simp), if_neg (Int.not_lt.2 h2), if_neg (Int.not_le.2 h3), if_neg (by rw [h4]; simp), if_neg (Int.not_le.2 h5), if_neg (by rw [h6]; simp), if_pos h7]
theorem codeV_8 (h1 : tabB D.par D.vs t = true) (h2 : 0 ≤ fndT D.plan t) (h3 : fndT ts t < 0) (h4 : fitsB D.cost D.bud (ts.length + 1) = true) (h5 : t.sum < 0) (h6 : fewB' (fewO (D.tbl t) (D.tbl t).length) D.floor = false) (h7 : fewB' (gapV D ts t) D.floor = false) : codeV D ts t = 0 := by unfold codeV; rw [if_neg (by rw [h1]; simp), if_neg (Int.not_lt.2 h2), if_neg (Int.not_le.2 h3), if_neg (by rw [h4]; simp), if_neg (Int.not_le.2 h5), if_neg (by rw [h6]; simp), if_neg (by rw [h7]; simp)]
end
theorem allB_eq {D : SvD} {t : TabD} (h : SurOk D) : allB D.par D.vs t = tabB D.par D.vs t := by unfold allB; rw [h.g, h.s]; rfl
theorem few_no {n f : Int} (h : ¬ (0 < n ∧ n < f)) : fewB' n f = false := by unfold fewB'; rw [Bool.and_eq_false_iff, decide_eq_false_iff_not, decide_eq_false_iff_not]; omega
theorem few_yes {n f : Int} (h1 : 0 < n) (h2 : n < f) : fewB' n f = true := by unfold fewB'; rw [decide_eq_true h1, decide_eq_true h2]; rfl
theorem few_of {n f : Int} (h : fewB' n f = true) : 0 < n ∧ n < f := by unfold fewB' at h; simpa using h
theorem few_not {n f : Int} (h : fewB' n f = false) : ¬ (0 < n ∧ n < f) := fun ⟨h1, h2⟩ => by rw [few_yes h1 h2] at h; cases h

set_option maxRecDepth 100000 in
set_option maxHeartbeats 2000000 in
theorem isFew_any (n f : Int) (w : World) : Calls Tryz.prog 121 #[.int .i64 n, .int .i64 f] w fun e w' => e = .returned (.bool (fewB' n f)) ∧ w = w' := by
  by_cases h1 : 0 < n
  · by_cases h2 : n < f
    · have R := Lib.hid (few_yes h1 h2)
      go_enter Tryz.func121, Tryz.ntmps121
      go_wp2
      go_ret
      exact ⟨ret_bool R.out.symm, rfl⟩
    · have R := Lib.hid (few_no (n := n) (f := f) (by omega))
      go_enter Tryz.func121, Tryz.ntmps121
      go_wp2
      go_ret
      exact ⟨ret_bool R.out.symm, rfl⟩
  · have R := Lib.hid (few_no (n := n) (f := f) (by omega))
    go_enter Tryz.func121, Tryz.ntmps121
    go_wp2
    go_ret
    exact ⟨ret_bool R.out.symm, rfl⟩

set_option maxRecDepth 100000 in
set_option maxHeartbeats 2000000 in
theorem jCode_any (P A Z Y Q : Option Addr) (g cg n c m cm p cp q cq : Nat) (D : SvD) (V U E : Option Addr) (tm td tk te r ce : Nat) (t : TabD) (ts : List TabD) (w : World) (hO : SurOk D) (hc : LosOk D.cost) (hb : LosOk D.bud) (hts : ∀ j, j < r → tabB D.par D.vs (tX ts j) = true) (hR : SurR w P A Z g n c m D) (hT : TabR w V tm U tk t) (hP : TabsR w Y p D.plan) (hQ : TabsR w E r ts) :
    Calls Tryz.prog 78 #[.agg #[.slice P g cg, .slice A n c, .slice Z m cm, .slice Y p cp, .int .i64 D.cost.a, .int .i64 D.cost.b, .int .i64 D.cost.c, .int .i64 D.cost.d, .int .i64 D.bud.a, .int .i64 D.bud.b, .int .i64 D.bud.c, .int .i64 D.bud.d, .int .i64 D.floor, .slice Q q cq], .slice E r ce, .agg #[.int .i64 t.lv, .slice V tm td, .slice U tk te, .int .i64 t.sum]] w fun e w' => e = .returned (.int .i64 (codeV D ts t)) ∧ Below w.heap.size w w' := by
  have HO := Lib.hid hO
  have HC := Lib.hid hc
  have HBU := Lib.hid hb
  have HTS := Lib.hid hts
  have hq := hQ.bd
  have HL := Lib.hid hQ.len
  have hgeo := geoB_of hO.g
  rw [hR.p.len] at hgeo
  have HGE := Lib.hid hgeo
  clear hO hc hb hts hgeo
  obtain ⟨b0, xs, xt⟩ := box_two w #[.slice P g cg, .slice A n c, .slice Z m cm, .slice Y p cp, .int .i64 D.cost.a, .int .i64 D.cost.b, .int .i64 D.cost.c, .int .i64 D.cost.d, .int .i64 D.bud.a, .int .i64 D.bud.b, .int .i64 D.bud.c, .int .i64 D.bud.d, .int .i64 D.floor, .slice Q q cq] #[.int .i64 t.lv, .slice V tm td, .slice U tk te, .int .i64 t.sum] 44 56
  replace hR := hR.below b0
  replace hT := hT.below b0
  replace hP := hP.below b0
  replace hQ := hQ.below b0
  have HB := Lib.hid b0
  have Xs := Lib.hid xs
  have Xt := Lib.hid xt
  clear b0 xs xt
  go_enter Tryz.func78, Tryz.ntmps78
  have ls := lt_of_block Xs.out
  have cs0 := bxc Xs.out 0 _ rfl
  have cs1 := bxc Xs.out 1 _ rfl
  have lt := lt_of_block Xt.out
  have ct0 := bxc Xt.out 0 _ rfl
  have ct1 := bxc Xt.out 1 _ rfl
  have ct2 := bxc Xt.out 2 _ rfl
  have ct3 := bxc Xt.out 3 _ rfl
  go_wp2_with fail
  clear ls cs0 cs1 lt ct0 ct1 ct2 ct3
  generalize (w.alloc (.cells #[.slice P g cg, .slice A n c, .slice Z m cm, .slice Y p cp, .int .i64 D.cost.a, .int .i64 D.cost.b, .int .i64 D.cost.c, .int .i64 D.cost.d, .int .i64 D.bud.a, .int .i64 D.bud.b, .int .i64 D.bud.c, .int .i64 D.bud.d, .int .i64 D.floor, .slice Q q cq] 44)).alloc (.cells #[.int .i64 t.lv, .slice V tm td, .slice U tk te, .int .i64 t.sum] 56) = w0 at *
  refine (uGood_any P A V U g cg n c tm td tk te D.par t D.vs _ hR.p hR.s hT).mono ?_
  rintro e w1 ⟨rfl, b1⟩
  rw [allB_eq HO.out]
  replace Xs := Lib.hid (bxb Xs.out b1)
  replace Xt := Lib.hid (bxb Xt.out b1)
  replace hR := hR.below b1
  replace hT := hT.below b1
  replace hP := hP.below b1
  replace hQ := hQ.below b1
  replace HB := Lib.hid (HB.out.trans (b1.mono HB.out.size))
  clear b1
  cases h1 : tabB D.par D.vs t
  · have R := Lib.hid (codeV_1 (ts := ts) h1)
    clear h1
    go_wp2
    go_ret
    exact ⟨ret_int R.out.symm, HB.out⟩
  have H1 := Lib.hid h1
  clear h1
  have ls := lt_of_block Xs.out
  have cs3 := bxc Xs.out 3 _ rfl
  have lt := lt_of_block Xt.out
  have ct0 := bxc Xt.out 0 _ rfl
  have ct1 := bxc Xt.out 1 _ rfl
  have ct2 := bxc Xt.out 2 _ rfl
  have ct3 := bxc Xt.out 3 _ rfl
  go_wp2_with fail
  clear ls cs3 lt ct0 ct1 ct2 ct3
  refine (jFind_any Y V U p cp tm td tk te D.plan t _ hP hT).mono ?_
  rintro e w2 ⟨rfl, b2⟩
  replace Xs := Lib.hid (bxb Xs.out b2)
  replace Xt := Lib.hid (bxb Xt.out b2)
  replace hR := hR.below b2
  replace hT := hT.below b2
  replace hP := hP.below b2
  replace hQ := hQ.below b2
  replace HB := Lib.hid (HB.out.trans (b2.mono HB.out.size))
  clear b2
  obtain ⟨f1, hf1⟩ : ∃ x, fndT D.plan t = x := ⟨_, rfl⟩
  rw [hf1]
  have F1 := Lib.hid hf1
  clear hf1
  by_cases h2 : f1 < 0
  · have R := Lib.hid (codeV_2 (ts := ts) H1.out (by rw [F1.out]; exact h2))
    go_wp2
    go_ret
    exact ⟨ret_int R.out.symm, HB.out⟩
  have H2 := Lib.hid (show 0 ≤ fndT D.plan t by rw [F1.out]; omega)
  have ls := lt_of_block Xs.out
  have lt := lt_of_block Xt.out
  have ct0 := bxc Xt.out 0 _ rfl
  have ct1 := bxc Xt.out 1 _ rfl
  have ct2 := bxc Xt.out 2 _ rfl
  have ct3 := bxc Xt.out 3 _ rfl
  go_wp2_with fail
  clear ls lt ct0 ct1 ct2 ct3
  refine (jFind_any E V U r ce tm td tk te ts t _ hQ hT).mono ?_
  rintro e w3 ⟨rfl, b3⟩
  replace Xs := Lib.hid (bxb Xs.out b3)
  replace Xt := Lib.hid (bxb Xt.out b3)
  replace hR := hR.below b3
  replace hT := hT.below b3
  replace hP := hP.below b3
  replace hQ := hQ.below b3
  replace HB := Lib.hid (HB.out.trans (b3.mono HB.out.size))
  clear b3
  clear h2
  obtain ⟨f2, hf2⟩ : ∃ x, fndT ts t = x := ⟨_, rfl⟩
  rw [hf2]
  have F2 := Lib.hid hf2
  clear hf2
  by_cases h3 : 0 ≤ f2
  · have R := Lib.hid (codeV_3 (ts := ts) H1.out H2.out (by rw [F2.out]; exact h3))
    go_wp2
    go_ret
    exact ⟨ret_int R.out.symm, HB.out⟩
  have H3 := Lib.hid (show fndT ts t < 0 by rw [F2.out]; omega)
  have HFQ := Lib.hid (show fitsB D.cost D.bud (ts.length + 1) = fitsB D.cost D.bud (r + 1) by rw [HL.out])
  have ls := lt_of_block Xs.out
  have cs0 := bxc Xs.out 0 _ rfl
  have cs1 := bxc Xs.out 1 _ rfl
  have cs2 := bxc Xs.out 2 _ rfl
  have cs3 := bxc Xs.out 3 _ rfl
  have cs4 := bxc Xs.out 4 _ rfl
  have cs5 := bxc Xs.out 5 _ rfl
  have cs6 := bxc Xs.out 6 _ rfl
  have cs7 := bxc Xs.out 7 _ rfl
  have cs8 := bxc Xs.out 8 _ rfl
  have cs9 := bxc Xs.out 9 _ rfl
  have cs10 := bxc Xs.out 10 _ rfl
  have cs11 := bxc Xs.out 11 _ rfl
  have cs12 := bxc Xs.out 12 _ rfl
  have cs13 := bxc Xs.out 13 _ rfl
  go_wp2_with fail
  clear ls cs0 cs1 cs2 cs3 cs4 cs5 cs6 cs7 cs8 cs9 cs10 cs11 cs12 cs13
  refine (jFits_any P A Z Y Q g cg n c m cm p cp q cq D (r + 1) _ (by omega) HC.out HBU.out).mono ?_
  rintro e w4 ⟨rfl, b4⟩
  replace Xs := Lib.hid (bxb Xs.out b4)
  replace Xt := Lib.hid (bxb Xt.out b4)
  replace hR := hR.below b4
  replace hT := hT.below b4
  replace hP := hP.below b4
  replace hQ := hQ.below b4
  replace HB := Lib.hid (HB.out.trans (b4.mono HB.out.size))
  clear b4 h3
  cases h4 : fitsB D.cost D.bud (r + 1)
  · have R := Lib.hid (codeV_4 (ts := ts) H1.out H2.out H3.out (HFQ.out.trans h4))
    clear h4 HFQ
    go_wp2
    go_ret
    exact ⟨ret_int R.out.symm, HB.out⟩
  have H5 := Lib.hid (HFQ.out.trans h4)
  clear h4 HFQ
  by_cases h5 : 0 ≤ t.sum
  · have R := Lib.hid (codeV_5 (ts := ts) H1.out H2.out H3.out H5.out h5)
    have lt := lt_of_block Xt.out
    have ct3 := bxc Xt.out 3 _ rfl
    go_wp2
    go_ret
    exact ⟨ret_int R.out.symm, HB.out⟩
  have HTO := Lib.hid (HO.out.tab hR H1.out)
  have hs1 : t.sum = -1 := by have := HTO.out.sum; omega
  have HSM := Lib.hid hs1
  have H6 := Lib.hid (show t.sum < 0 by omega)
  clear h5 hs1
  have HNL := Lib.hid (show (D.tbl t).length = (cntV D.par D.vs t).toNat from tblV_len)
  have hN := HTO.out.cntN
  have hN1 := hN.2
  clear hN
  have HFE := Lib.hid (show fewO (D.tbl t) (D.tbl t).length = fewO (tblV D.par D.vs t D.rs) (cntV D.par D.vs t).toNat by rw [HNL.out]; rfl)
  obtain ⟨N, hNe⟩ : ∃ N, (cntV D.par D.vs t).toNat = N := ⟨_, rfl⟩
  have HNE := Lib.hid hNe
  rw [hNe] at HFE hN1
  clear hNe HNL
  obtain ⟨fw, hfw⟩ : ∃ x, fewO (tblV D.par D.vs t D.rs) N = x := ⟨_, rfl⟩
  rw [hfw] at HFE
  have HFW := Lib.hid hfw
  clear hfw
  obtain ⟨gp, hgp⟩ : ∃ x, gapV D ts t = x := ⟨_, rfl⟩
  have HGP := Lib.hid hgp
  clear hgp
  have ls := lt_of_block Xs.out
  have cs0 := bxc Xs.out 0 _ rfl
  have cs1 := bxc Xs.out 1 _ rfl
  have cs2 := bxc Xs.out 2 _ rfl
  have lt := lt_of_block Xt.out
  have ct0 := bxc Xt.out 0 _ rfl
  have ct1 := bxc Xt.out 1 _ rfl
  have ct2 := bxc Xt.out 2 _ rfl
  have ct3 := bxc Xt.out 3 _ rfl
  rw [HSM.out] at ct3
  have HSN := HSM
  go_wp2_with fail
  clear ls cs0 cs1 cs2 lt ct0 ct1 ct2 ct3
  try rw [← HSM.out]
  refine (uTable_any P A V U Z g cg n c tm td tk te m cm D.par t D.vs D.rs _ HTO.out HO.out.d hR.p hR.s hT hR.d).mono ?_
  rintro e w7 ⟨O, oc, rfl, ho, b7⟩
  rw [HNE.out] at ho ⊢
  replace Xs := Lib.hid (bxb Xs.out b7)
  replace Xt := Lib.hid (bxb Xt.out b7)
  replace hR := hR.below b7
  replace hT := hT.below b7
  replace hP := hP.below b7
  replace hQ := hQ.below b7
  replace HB := Lib.hid (HB.out.trans (b7.mono HB.out.size))
  clear b7
  have hi := ho.ints
  clear ho
  go_wp2_with fail
  refine (jFewest_any O N oc _ _ hi (by omega)).mono ?_
  rintro e w8 ⟨rfl, rfl⟩
  clear hi
  rw [HFW.out]
  cases h6 : fewB' fw D.floor
  · have H7 := Lib.hid (show fewB' (fewO (D.tbl t) (D.tbl t).length) D.floor = false by rw [HFE.out]; exact h6)
    have hn6 := few_not h6
    clear h6
    by_cases hp1 : 0 < fw
    · have hp2 : ¬ fw < D.floor := fun h => hn6 ⟨hp1, h⟩
      clear hn6
      have ls := lt_of_block Xs.out
      have cs0 := bxc Xs.out 0 _ rfl
      have cs1 := bxc Xs.out 1 _ rfl
      have cs2 := bxc Xs.out 2 _ rfl
      have cs3 := bxc Xs.out 3 _ rfl
      have cs4 := bxc Xs.out 4 _ rfl
      have cs5 := bxc Xs.out 5 _ rfl
      have cs6 := bxc Xs.out 6 _ rfl
      have cs7 := bxc Xs.out 7 _ rfl
      have cs8 := bxc Xs.out 8 _ rfl
      have cs9 := bxc Xs.out 9 _ rfl
      have cs10 := bxc Xs.out 10 _ rfl
      have cs11 := bxc Xs.out 11 _ rfl
      have cs12 := bxc Xs.out 12 _ rfl
      have cs13 := bxc Xs.out 13 _ rfl
      have lt := lt_of_block Xt.out
      have ct0 := bxc Xt.out 0 _ rfl
      have ct1 := bxc Xt.out 1 _ rfl
      have ct2 := bxc Xt.out 2 _ rfl
      have ct3 := bxc Xt.out 3 _ rfl
      go_wp2_with fail
      clear ls cs0 cs1 cs2 cs3 cs4 cs5 cs6 cs7 cs8 cs9 cs10 cs11 cs12 cs13 lt ct0 ct1 ct2 ct3
      refine (jGap_any P A Z Y Q g cg n c m cm p cp q cq D V U E tm td tk te r ce t ts _ HO.out H1.out HTS.out hR hT hQ).mono ?_
      rintro e w9 ⟨rfl, b9⟩
      rw [HGP.out]
      replace Xs := Lib.hid (bxb Xs.out b9)
      replace Xt := Lib.hid (bxb Xt.out b9)
      replace hR := hR.below b9
      replace hT := hT.below b9
      replace hP := hP.below b9
      replace hQ := hQ.below b9
      replace HB := Lib.hid (HB.out.trans (b9.mono HB.out.size))
      clear b9 hR hT hP hQ Xt
      cases h7 : fewB' gp D.floor
      · have R := Lib.hid (codeV_8 (ts := ts) H1.out H2.out H3.out H5.out H6.out H7.out (show fewB' (gapV D ts t) D.floor = false by rw [HGP.out]; exact h7))
        have hn7 := few_not h7
        clear h7
        by_cases hp3 : 0 < gp
        · have hp4 : ¬ gp < D.floor := fun h => hn7 ⟨hp3, h⟩
          clear hn7
          have ls := lt_of_block Xs.out
          have cs12 := bxc Xs.out 12 _ rfl
          go_wp2
          go_ret
          exact ⟨ret_int R.out.symm, HB.out⟩
        · clear hn7
          have ls := lt_of_block Xs.out
          have cs12 := bxc Xs.out 12 _ rfl
          go_wp2
          go_ret
          exact ⟨ret_int R.out.symm, HB.out⟩
      · have R := Lib.hid (codeV_7 (ts := ts) H1.out H2.out H3.out H5.out H6.out H7.out (show fewB' (gapV D ts t) D.floor = true by rw [HGP.out]; exact h7))
        obtain ⟨hp3, hp4⟩ := few_of h7
        clear h7
        have ls := lt_of_block Xs.out
        have cs12 := bxc Xs.out 12 _ rfl
        go_wp2
        go_ret
        exact ⟨ret_int R.out.symm, HB.out⟩
    · clear hn6
      have ls := lt_of_block Xs.out
      have cs0 := bxc Xs.out 0 _ rfl
      have cs1 := bxc Xs.out 1 _ rfl
      have cs2 := bxc Xs.out 2 _ rfl
      have cs3 := bxc Xs.out 3 _ rfl
      have cs4 := bxc Xs.out 4 _ rfl
      have cs5 := bxc Xs.out 5 _ rfl
      have cs6 := bxc Xs.out 6 _ rfl
      have cs7 := bxc Xs.out 7 _ rfl
      have cs8 := bxc Xs.out 8 _ rfl
      have cs9 := bxc Xs.out 9 _ rfl
      have cs10 := bxc Xs.out 10 _ rfl
      have cs11 := bxc Xs.out 11 _ rfl
      have cs12 := bxc Xs.out 12 _ rfl
      have cs13 := bxc Xs.out 13 _ rfl
      have lt := lt_of_block Xt.out
      have ct0 := bxc Xt.out 0 _ rfl
      have ct1 := bxc Xt.out 1 _ rfl
      have ct2 := bxc Xt.out 2 _ rfl
      have ct3 := bxc Xt.out 3 _ rfl
      go_wp2_with fail
      clear ls cs0 cs1 cs2 cs3 cs4 cs5 cs6 cs7 cs8 cs9 cs10 cs11 cs12 cs13 lt ct0 ct1 ct2 ct3
      refine (jGap_any P A Z Y Q g cg n c m cm p cp q cq D V U E tm td tk te r ce t ts _ HO.out H1.out HTS.out hR hT hQ).mono ?_
      rintro e w9 ⟨rfl, b9⟩
      rw [HGP.out]
      replace Xs := Lib.hid (bxb Xs.out b9)
      replace Xt := Lib.hid (bxb Xt.out b9)
      replace hR := hR.below b9
      replace hT := hT.below b9
      replace hP := hP.below b9
      replace hQ := hQ.below b9
      replace HB := Lib.hid (HB.out.trans (b9.mono HB.out.size))
      clear b9 hR hT hP hQ Xt
      cases h7 : fewB' gp D.floor
      · have R := Lib.hid (codeV_8 (ts := ts) H1.out H2.out H3.out H5.out H6.out H7.out (show fewB' (gapV D ts t) D.floor = false by rw [HGP.out]; exact h7))
        have hn7 := few_not h7
        clear h7
        by_cases hp3 : 0 < gp
        · have hp4 : ¬ gp < D.floor := fun h => hn7 ⟨hp3, h⟩
          clear hn7
          have ls := lt_of_block Xs.out
          have cs12 := bxc Xs.out 12 _ rfl
          go_wp2
          go_ret
          exact ⟨ret_int R.out.symm, HB.out⟩
        · clear hn7
          have ls := lt_of_block Xs.out
          have cs12 := bxc Xs.out 12 _ rfl
          go_wp2
          go_ret
          exact ⟨ret_int R.out.symm, HB.out⟩
      · have R := Lib.hid (codeV_7 (ts := ts) H1.out H2.out H3.out H5.out H6.out H7.out (show fewB' (gapV D ts t) D.floor = true by rw [HGP.out]; exact h7))
        obtain ⟨hp3, hp4⟩ := few_of h7
        clear h7
        have ls := lt_of_block Xs.out
        have cs12 := bxc Xs.out 12 _ rfl
        go_wp2
        go_ret
        exact ⟨ret_int R.out.symm, HB.out⟩
  · have H7 := Lib.hid (show fewB' (fewO (D.tbl t) (D.tbl t).length) D.floor = true by rw [HFE.out]; exact h6)
    have R := Lib.hid (codeV_6 (ts := ts) H1.out H2.out H3.out H5.out H6.out H7.out)
    obtain ⟨hp1, hp2⟩ := few_of h6
    clear h6
    have ls := lt_of_block Xs.out
    have cs12 := bxc Xs.out 12 _ rfl
    go_wp2
    go_ret
    exact ⟨ret_int R.out.symm, HB.out⟩

set_option maxRecDepth 100000 in
set_option maxHeartbeats 2000000 in
theorem queryCode_any (P A Z Y Q : Option Addr) (g cg n c m cm p cp q cq : Nat) (D : SvD) (V U : Option Addr) (tm td tk te : Nat) (t : TabD) (ts : List TabD) (w : World) (hO : SurOk D) (hc : LosOk D.cost) (hb : LosOk D.bud) (hts : ∀ j, j < q → tabB D.par D.vs (tX ts j) = true) (hR : SurR w P A Z g n c m D) (hT : TabR w V tm U tk t) (hP : TabsR w Y p D.plan) (hQ : TabsR w Q q ts) :
    Calls Tryz.prog 64 #[.agg #[.slice P g cg, .slice A n c, .slice Z m cm, .slice Y p cp, .int .i64 D.cost.a, .int .i64 D.cost.b, .int .i64 D.cost.c, .int .i64 D.cost.d, .int .i64 D.bud.a, .int .i64 D.bud.b, .int .i64 D.bud.c, .int .i64 D.bud.d, .int .i64 D.floor, .slice Q q cq], .agg #[.int .i64 t.lv, .slice V tm td, .slice U tk te, .int .i64 t.sum]] w fun e w' => e = .returned (.int .i64 (codeV D ts t)) ∧ Below w.heap.size w w' := by
  have HO := Lib.hid hO
  have HC := Lib.hid hc
  have HBU := Lib.hid hb
  have HTS := Lib.hid hts
  have hq := hQ.bd
  have HL := Lib.hid hQ.len
  have hgeo := geoB_of hO.g
  rw [hR.p.len] at hgeo
  have HGE := Lib.hid hgeo
  clear hO hc hb hts hgeo
  obtain ⟨b0, xs, xt⟩ := box_two w #[.slice P g cg, .slice A n c, .slice Z m cm, .slice Y p cp, .int .i64 D.cost.a, .int .i64 D.cost.b, .int .i64 D.cost.c, .int .i64 D.cost.d, .int .i64 D.bud.a, .int .i64 D.bud.b, .int .i64 D.bud.c, .int .i64 D.bud.d, .int .i64 D.floor, .slice Q q cq] #[.int .i64 t.lv, .slice V tm td, .slice U tk te, .int .i64 t.sum] 44 56
  replace hR := hR.below b0
  replace hT := hT.below b0
  replace hP := hP.below b0
  replace hQ := hQ.below b0
  have HB := Lib.hid b0
  have Xs := Lib.hid xs
  have Xt := Lib.hid xt
  clear b0 xs xt
  go_enter Tryz.func64, Tryz.ntmps64
  have ls := lt_of_block Xs.out
  have cs0 := bxc Xs.out 0 _ rfl
  have cs1 := bxc Xs.out 1 _ rfl
  have lt := lt_of_block Xt.out
  have ct0 := bxc Xt.out 0 _ rfl
  have ct1 := bxc Xt.out 1 _ rfl
  have ct2 := bxc Xt.out 2 _ rfl
  have ct3 := bxc Xt.out 3 _ rfl
  go_wp2_with fail
  clear ls cs0 cs1 lt ct0 ct1 ct2 ct3
  generalize (w.alloc (.cells #[.slice P g cg, .slice A n c, .slice Z m cm, .slice Y p cp, .int .i64 D.cost.a, .int .i64 D.cost.b, .int .i64 D.cost.c, .int .i64 D.cost.d, .int .i64 D.bud.a, .int .i64 D.bud.b, .int .i64 D.bud.c, .int .i64 D.bud.d, .int .i64 D.floor, .slice Q q cq] 44)).alloc (.cells #[.int .i64 t.lv, .slice V tm td, .slice U tk te, .int .i64 t.sum] 56) = w0 at *
  refine (isTable_any P A V U g cg n c tm td tk te D.par t D.vs _ HGE.out HO.out.s hR.p hR.s hT).mono ?_
  rintro e w1 ⟨rfl, b1⟩
  replace Xs := Lib.hid (bxb Xs.out b1)
  replace Xt := Lib.hid (bxb Xt.out b1)
  replace hR := hR.below b1
  replace hT := hT.below b1
  replace hP := hP.below b1
  replace hQ := hQ.below b1
  replace HB := Lib.hid (HB.out.trans (b1.mono HB.out.size))
  clear b1
  cases h1 : tabB D.par D.vs t
  · have R := Lib.hid (codeV_1 (ts := ts) h1)
    clear h1
    go_wp2
    go_ret
    exact ⟨ret_int R.out.symm, HB.out⟩
  have H1 := Lib.hid h1
  clear h1
  have ls := lt_of_block Xs.out
  have cs3 := bxc Xs.out 3 _ rfl
  have lt := lt_of_block Xt.out
  have ct0 := bxc Xt.out 0 _ rfl
  have ct1 := bxc Xt.out 1 _ rfl
  have ct2 := bxc Xt.out 2 _ rfl
  have ct3 := bxc Xt.out 3 _ rfl
  go_wp2_with fail
  clear ls cs3 lt ct0 ct1 ct2 ct3
  refine (indexOfTable_any Y V U p cp tm td tk te D.plan t _ hP hT).mono ?_
  rintro e w2 ⟨rfl, b2⟩
  replace Xs := Lib.hid (bxb Xs.out b2)
  replace Xt := Lib.hid (bxb Xt.out b2)
  replace hR := hR.below b2
  replace hT := hT.below b2
  replace hP := hP.below b2
  replace hQ := hQ.below b2
  replace HB := Lib.hid (HB.out.trans (b2.mono HB.out.size))
  clear b2
  obtain ⟨f1, hf1⟩ : ∃ x, fndT D.plan t = x := ⟨_, rfl⟩
  rw [hf1]
  have F1 := Lib.hid hf1
  clear hf1
  by_cases h2 : f1 < 0
  · have R := Lib.hid (codeV_2 (ts := ts) H1.out (by rw [F1.out]; exact h2))
    go_wp2
    go_ret
    exact ⟨ret_int R.out.symm, HB.out⟩
  have H2 := Lib.hid (show 0 ≤ fndT D.plan t by rw [F1.out]; omega)
  have ls := lt_of_block Xs.out
  have cs13 := bxc Xs.out 13 _ rfl
  have lt := lt_of_block Xt.out
  have ct0 := bxc Xt.out 0 _ rfl
  have ct1 := bxc Xt.out 1 _ rfl
  have ct2 := bxc Xt.out 2 _ rfl
  have ct3 := bxc Xt.out 3 _ rfl
  go_wp2_with fail
  clear ls cs13 lt ct0 ct1 ct2 ct3
  refine (indexOfTable_any Q V U q cq tm td tk te ts t _ hQ hT).mono ?_
  rintro e w3 ⟨rfl, b3⟩
  replace Xs := Lib.hid (bxb Xs.out b3)
  replace Xt := Lib.hid (bxb Xt.out b3)
  replace hR := hR.below b3
  replace hT := hT.below b3
  replace hP := hP.below b3
  replace hQ := hQ.below b3
  replace HB := Lib.hid (HB.out.trans (b3.mono HB.out.size))
  clear b3
  clear h2
  obtain ⟨f2, hf2⟩ : ∃ x, fndT ts t = x := ⟨_, rfl⟩
  rw [hf2]
  have F2 := Lib.hid hf2
  clear hf2
  by_cases h3 : 0 ≤ f2
  · have R := Lib.hid (codeV_3 (ts := ts) H1.out H2.out (by rw [F2.out]; exact h3))
    go_wp2
    go_ret
    exact ⟨ret_int R.out.symm, HB.out⟩
  have H3 := Lib.hid (show fndT ts t < 0 by rw [F2.out]; omega)
  have HFQ := Lib.hid (show fitsB D.cost D.bud (ts.length + 1) = fitsB D.cost D.bud (q + 1) by rw [HL.out])
  have ls := lt_of_block Xs.out
  have cs4 := bxc Xs.out 4 _ rfl
  have cs5 := bxc Xs.out 5 _ rfl
  have cs6 := bxc Xs.out 6 _ rfl
  have cs7 := bxc Xs.out 7 _ rfl
  have cs13 := bxc Xs.out 13 _ rfl
  go_wp2_with fail
  clear ls cs4 cs5 cs6 cs7 cs13
  clear h3
  cases hc : costO D.cost (q + 1) with
  | none =>
    have R := Lib.hid (codeV_4 (ts := ts) H1.out H2.out H3.out (HFQ.out.trans (fitsB_no (b := D.bud) hc).symm))
    have HCO := Lib.hid hc
    clear hc HFQ
    refine (costOf_any D.cost (q + 1) none _ (by omega) HC.out HCO.out).mono ?_
    rintro e w4 ⟨he, b4⟩
    obtain rfl : e = .returned (.tuple #[.agg #[.int .i64 0, .int .i64 0, .int .i64 0, .int .i64 0], .bool false]) := he
    replace Xs := Lib.hid (bxb Xs.out b4)
    replace Xt := Lib.hid (bxb Xt.out b4)
    replace hR := hR.below b4
    replace hT := hT.below b4
    replace hP := hP.below b4
    replace hQ := hQ.below b4
    replace HB := Lib.hid (HB.out.trans (b4.mono HB.out.size))
    clear b4
    have b5 := below_new w4 (.cells #[.int .i64 0, .int .i64 0, .int .i64 0, .int .i64 0] 42)
    have Xn := Lib.hid (box_new w4 #[.int .i64 0, .int .i64 0, .int .i64 0, .int .i64 0] 42)
    replace Xs := Lib.hid (bxb Xs.out b5)
    replace Xt := Lib.hid (bxb Xt.out b5)
    replace hR := hR.below b5
    replace hT := hT.below b5
    replace hP := hP.below b5
    replace hQ := hQ.below b5
    replace HB := Lib.hid (HB.out.trans (b5.mono HB.out.size))
    clear b5
    go_wp2
    go_ret
    exact ⟨ret_int R.out.symm, HB.out⟩
  | some z =>
    have HCO := Lib.hid hc
    have HZ := Lib.hid (costO_ok hc)
    have HFZ := Lib.hid (fitsB_yes (b := D.bud) hc)
    clear hc
    refine (costOf_any D.cost (q + 1) (some z) _ (by omega) HC.out HCO.out).mono ?_
    rintro e w4 ⟨he, b4⟩
    obtain rfl : e = .returned (.tuple #[.agg #[.int .i64 z.a, .int .i64 z.b, .int .i64 z.c, .int .i64 z.d], .bool true]) := he
    replace Xs := Lib.hid (bxb Xs.out b4)
    replace Xt := Lib.hid (bxb Xt.out b4)
    replace hR := hR.below b4
    replace hT := hT.below b4
    replace hP := hP.below b4
    replace hQ := hQ.below b4
    replace HB := Lib.hid (HB.out.trans (b4.mono HB.out.size))
    clear b4
    have b5 := below_new w4 (.cells #[.int .i64 z.a, .int .i64 z.b, .int .i64 z.c, .int .i64 z.d] 42)
    have Xn := Lib.hid (box_new w4 #[.int .i64 z.a, .int .i64 z.b, .int .i64 z.c, .int .i64 z.d] 42)
    replace Xs := Lib.hid (bxb Xs.out b5)
    replace Xt := Lib.hid (bxb Xt.out b5)
    replace hR := hR.below b5
    replace hT := hT.below b5
    replace hP := hP.below b5
    replace hQ := hQ.below b5
    replace HB := Lib.hid (HB.out.trans (b5.mono HB.out.size))
    clear b5
    have ls := lt_of_block Xs.out
    have cs8 := bxc Xs.out 8 _ rfl
    have cs9 := bxc Xs.out 9 _ rfl
    have cs10 := bxc Xs.out 10 _ rfl
    have cs11 := bxc Xs.out 11 _ rfl
    have ln := lt_of_block Xn.out
    have cn0 := bxc Xn.out 0 _ rfl
    have cn1 := bxc Xn.out 1 _ rfl
    have cn2 := bxc Xn.out 2 _ rfl
    have cn3 := bxc Xn.out 3 _ rfl
    go_wp2_with fail
    clear ls cs8 cs9 cs10 cs11 ln cn0 cn1 cn2 cn3
    generalize w4.alloc (.cells #[.int .i64 z.a, .int .i64 z.b, .int .i64 z.c, .int .i64 z.d] 42) = w5 at *
    refine (isWithin_any D.bud z _ HBU.out HZ.out).mono ?_
    rintro e w6 ⟨rfl, b6⟩
    replace Xs := Lib.hid (bxb Xs.out b6)
    replace Xt := Lib.hid (bxb Xt.out b6)
    replace Xn := Lib.hid (bxb Xn.out b6)
    replace hR := hR.below b6
    replace hT := hT.below b6
    replace hP := hP.below b6
    replace hQ := hQ.below b6
    replace HB := Lib.hid (HB.out.trans (b6.mono HB.out.size))
    clear b6 Xn
    cases h4 : inLos D.bud z
    · have R := Lib.hid (codeV_4 (ts := ts) H1.out H2.out H3.out (HFQ.out.trans (HFZ.out.symm.trans h4)))
      clear h4 HFQ HFZ
      go_wp2
      go_ret
      exact ⟨ret_int R.out.symm, HB.out⟩
    have H5 := Lib.hid (HFQ.out.trans (HFZ.out.symm.trans h4))
    clear h4 HFQ HFZ
    by_cases h5 : 0 ≤ t.sum
    · have R := Lib.hid (codeV_5 (ts := ts) H1.out H2.out H3.out H5.out h5)
      have hq : (t.sum == -1) = false := by rw [beq_eq_false_iff_ne]; omega
      have lt := lt_of_block Xt.out
      have ct3 := bxc Xt.out 3 _ rfl
      go_wp2
      go_quiet (fail)
      go_wp2
      go_quiet (fail)
      go_wp2
      go_ret
      exact ⟨ret_int R.out.symm, below_drewN (below_drewN HB.out _) _⟩
    have HTO := Lib.hid (HO.out.tab hR H1.out)
    have hs1 : t.sum = -1 := by have := HTO.out.sum; omega
    have HSM := Lib.hid hs1
    have H6 := Lib.hid (show t.sum < 0 by omega)
    clear h5 hs1
    have HNL := Lib.hid (show (D.tbl t).length = (cntV D.par D.vs t).toNat from tblV_len)
    have hN := HTO.out.cntN
    have hN1 := hN.2
    clear hN
    have HFE := Lib.hid (show fewO (D.tbl t) (D.tbl t).length = fewO (tblV D.par D.vs t D.rs) (cntV D.par D.vs t).toNat by rw [HNL.out]; rfl)
    obtain ⟨N, hNe⟩ : ∃ N, (cntV D.par D.vs t).toNat = N := ⟨_, rfl⟩
    have HNE := Lib.hid hNe
    rw [hNe] at HFE hN1
    clear hNe HNL
    obtain ⟨fw, hfw⟩ : ∃ x, fewO (tblV D.par D.vs t D.rs) N = x := ⟨_, rfl⟩
    rw [hfw] at HFE
    have HFW := Lib.hid hfw
    clear hfw
    obtain ⟨gp, hgp⟩ : ∃ x, gapV D ts t = x := ⟨_, rfl⟩
    have HGP := Lib.hid hgp
    clear hgp
    have sw6 := HB.out.size
    have BL := (Below.refl w6.heap.size w6).drew
    have xs : (World.drew w6).heap[w.heap.size]? = _ := Xs.out
    have xt : (World.drew w6).heap[w.heap.size + 1]? = _ := Xt.out
    have ls := lt_of_block Xs.out
    have lt := lt_of_block Xt.out
    have cs0 := bxc Xs.out 0 _ rfl
    have cs1 := bxc Xs.out 1 _ rfl
    have cs2 := bxc Xs.out 2 _ rfl
    have cs12 := bxc Xs.out 12 _ rfl
    have ct0 := bxc Xt.out 0 _ rfl
    have ct1 := bxc Xt.out 1 _ rfl
    have ct2 := bxc Xt.out 2 _ rfl
    have ct3 := bxc Xt.out 3 _ rfl
    have hqs : (t.sum == -1) = true := by rw [HSM.out]; rfl
    go_wp2_with fail
    clear ls lt cs0 cs1 cs2 cs12 ct0 ct1 ct2 ct3
    have ls := lt_of_block xs
    have lt := lt_of_block xt
    go_region_held3 (fun w' => w'.cell? ⟨w.heap.size, 0, none⟩ = some (.slice P g cg) ∧ w'.cell? ⟨w.heap.size, 1, none⟩ = some (.slice A n c) ∧ w'.cell? ⟨w.heap.size, 2, none⟩ = some (.slice Z m cm) ∧ w'.cell? ⟨w.heap.size, 12, none⟩ = some (.int .i64 D.floor) ∧ w'.cell? ⟨w.heap.size + 1, 0, none⟩ = some (.int .i64 t.lv) ∧ w'.cell? ⟨w.heap.size + 1, 1, none⟩ = some (.slice V tm td) ∧ w'.cell? ⟨w.heap.size + 1, 2, none⟩ = some (.slice U tk te) ∧ w'.cell? ⟨w.heap.size + 1, 3, none⟩ = some (.int .i64 t.sum)) (exact ⟨bxc xs 0 _ rfl, bxc xs 1 _ rfl, bxc xs 2 _ rfl, bxc xs 12 _ rfl, bxc xt 0 _ rfl, bxc xt 1 _ rfl, bxc xt 2 _ rfl, bxc xt 3 _ rfl⟩) (first
        | (go_at_call 103; refine (tableOf_any P A V U Z g cg n c tm td tk te m cm D.par t D.vs D.rs _ HTO.out HO.out.d (hR.below BL).p (hR.below BL).s (hT.below BL) (hR.below BL).d).mono ?_; rintro e wq ⟨O, oc, rfl, ho, bq⟩; rw [HNE.out] at ho ⊢; have hi := ho.ints; clear ho; replace xs := bxb xs bq; replace xt := bxb xt bq; replace BL := BL.trans (bq.mono BL.size); clear bq)
        | (go_at_call 88; refine (fewest_any O N oc _ _ hi (by omega)).mono ?_; rintro e wq ⟨rfl, rfl⟩; rw [HFW.out])
        | (go_at_call 121; refine (isFew_any fw D.floor _).mono ?_; rintro e wq ⟨rfl, rfl⟩) | fail)
    have HB7 := Lib.hid (HB.out.trans (BL.mono sw6))
    replace hR := hR.below BL
    replace hT := hT.below BL
    replace hQ := hQ.below BL
    have Ys := Lib.hid xs
    have Yt := Lib.hid xt
    clear xs xt BL HB Xs Xt sw6 ls lt hi hP
    have Xs := Ys
    have Xt := Yt
    have HB := HB7
    clear Ys Yt HB7
    obtain ⟨wz, hwz⟩ : ∃ x : World, x = wq := ⟨_, rfl⟩
    subst hwz
    cases h6 : fewB' fw D.floor
    · have H7 := Lib.hid (show fewB' (fewO (D.tbl t) (D.tbl t).length) D.floor = false by rw [HFE.out]; exact h6)
      clear h6
      have swz := HB.out.size
      have BL := (Below.refl wz.heap.size wz).drew
      have xs : (World.drew wz).heap[w.heap.size]? = _ := Xs.out
      have xt : (World.drew wz).heap[w.heap.size + 1]? = _ := Xt.out
      have ls := lt_of_block Xs.out
      have lt := lt_of_block Xt.out
      have cs0 := bxc Xs.out 0 _ rfl
      have cs1 := bxc Xs.out 1 _ rfl
      have cs2 := bxc Xs.out 2 _ rfl
      have cs3 := bxc Xs.out 3 _ rfl
      have cs4 := bxc Xs.out 4 _ rfl
      have cs5 := bxc Xs.out 5 _ rfl
      have cs6 := bxc Xs.out 6 _ rfl
      have cs7 := bxc Xs.out 7 _ rfl
      have cs8 := bxc Xs.out 8 _ rfl
      have cs9 := bxc Xs.out 9 _ rfl
      have cs10 := bxc Xs.out 10 _ rfl
      have cs11 := bxc Xs.out 11 _ rfl
      have cs12 := bxc Xs.out 12 _ rfl
      have cs13 := bxc Xs.out 13 _ rfl
      have ct0 := bxc Xt.out 0 _ rfl
      have ct1 := bxc Xt.out 1 _ rfl
      have ct2 := bxc Xt.out 2 _ rfl
      have ct3 := bxc Xt.out 3 _ rfl
      have hqs : (t.sum == -1) = true := by rw [HSM.out]; rfl
      go_wp2_with fail
      clear ls lt cs0 cs1 cs2 cs3 cs4 cs5 cs6 cs7 cs8 cs9 cs10 cs11 cs12 cs13 ct0 ct1 ct2 ct3
      have ls := lt_of_block xs
      have lt := lt_of_block xt
      go_region_held3 (fun w' => w'.cell? ⟨w.heap.size, 0, none⟩ = some (.slice P g cg) ∧ w'.cell? ⟨w.heap.size, 1, none⟩ = some (.slice A n c) ∧ w'.cell? ⟨w.heap.size, 2, none⟩ = some (.slice Z m cm) ∧ w'.cell? ⟨w.heap.size, 3, none⟩ = some (.slice Y p cp) ∧ w'.cell? ⟨w.heap.size, 4, none⟩ = some (.int .i64 D.cost.a) ∧ w'.cell? ⟨w.heap.size, 5, none⟩ = some (.int .i64 D.cost.b) ∧ w'.cell? ⟨w.heap.size, 6, none⟩ = some (.int .i64 D.cost.c) ∧ w'.cell? ⟨w.heap.size, 7, none⟩ = some (.int .i64 D.cost.d) ∧ w'.cell? ⟨w.heap.size, 8, none⟩ = some (.int .i64 D.bud.a) ∧ w'.cell? ⟨w.heap.size, 9, none⟩ = some (.int .i64 D.bud.b) ∧ w'.cell? ⟨w.heap.size, 10, none⟩ = some (.int .i64 D.bud.c) ∧ w'.cell? ⟨w.heap.size, 11, none⟩ = some (.int .i64 D.bud.d) ∧ w'.cell? ⟨w.heap.size, 12, none⟩ = some (.int .i64 D.floor) ∧ w'.cell? ⟨w.heap.size, 13, none⟩ = some (.slice Q q cq) ∧ w'.cell? ⟨w.heap.size + 1, 0, none⟩ = some (.int .i64 t.lv) ∧ w'.cell? ⟨w.heap.size + 1, 1, none⟩ = some (.slice V tm td) ∧ w'.cell? ⟨w.heap.size + 1, 2, none⟩ = some (.slice U tk te) ∧ w'.cell? ⟨w.heap.size + 1, 3, none⟩ = some (.int .i64 t.sum)) (exact ⟨bxc xs 0 _ rfl, bxc xs 1 _ rfl, bxc xs 2 _ rfl, bxc xs 3 _ rfl, bxc xs 4 _ rfl, bxc xs 5 _ rfl, bxc xs 6 _ rfl, bxc xs 7 _ rfl, bxc xs 8 _ rfl, bxc xs 9 _ rfl, bxc xs 10 _ rfl, bxc xs 11 _ rfl, bxc xs 12 _ rfl, bxc xs 13 _ rfl, bxc xt 0 _ rfl, bxc xt 1 _ rfl, bxc xt 2 _ rfl, bxc xt 3 _ rfl⟩) (first
          | (go_at_call 77; refine (leastGap_any P A Z Y Q g cg n c m cm p cp q cq D V U tm td tk te t ts _ HO.out H1.out HTS.out (hR.below BL) (hT.below BL) (hQ.below BL)).mono ?_; rintro e wq ⟨rfl, bq⟩; rw [HGP.out]; replace xs := bxb xs bq; replace xt := bxb xt bq; replace BL := BL.trans (bq.mono BL.size); clear bq)
          | (go_at_call 121; refine (isFew_any gp D.floor _).mono ?_; rintro e wq ⟨rfl, rfl⟩) | fail)
      have HB7 := Lib.hid (HB.out.trans (BL.mono swz))
      clear xs xt BL HB Xs Xt swz ls lt hR hT hQ
      cases h7 : fewB' gp D.floor
      · have R := Lib.hid (codeV_8 (ts := ts) H1.out H2.out H3.out H5.out H6.out H7.out (show fewB' (gapV D ts t) D.floor = false by rw [HGP.out]; exact h7))
        clear h7
        go_wp2
        go_ret
        exact ⟨ret_int R.out.symm, HB7.out⟩
      · have R := Lib.hid (codeV_7 (ts := ts) H1.out H2.out H3.out H5.out H6.out H7.out (show fewB' (gapV D ts t) D.floor = true by rw [HGP.out]; exact h7))
        clear h7
        go_wp2
        go_ret
        exact ⟨ret_int R.out.symm, HB7.out⟩
    · have H7 := Lib.hid (show fewB' (fewO (D.tbl t) (D.tbl t).length) D.floor = true by rw [HFE.out]; exact h6)
      have R := Lib.hid (codeV_6 (ts := ts) H1.out H2.out H3.out H5.out H6.out H7.out)
      clear h6
      go_wp2
      go_ret
      exact ⟨ret_int R.out.symm, HB.out⟩
end
end Go.Proofs.YtfanpbfmnckmnaaGreat
