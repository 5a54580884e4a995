/- A table asked, by the program; printed by gat.py. -/
import Derived.Test.YtfanpbfmnckmnaaGreatYx
import Derived.Test.YtfanpbfmnckmnaaGreatYs
import Derived.Deep.RegionLaw
import Derived.Deep.RegionHeld3
namespace Go.Proofs.YtfanpbfmnckmnaaGreat
open Go.RowKit

set_option maxRecDepth 100000 in
set_option maxHeartbeats 4000000 in
theorem askTable_any (P A Z Y Q : Option Addr) (g cg n c m cm p cp q cq : Nat) (D : SvD) (V U : Option Addr) (tm td tk te : Nat) (t : TabD) (lo : Nat) (w : World) (hO : SurOk D) (hc : LosOk D.cost) (hb : LosOk D.bud) (hts : ∀ j, j < q → tabB D.par D.vs (tX D.asked j) = true) (hR : SurR w P A Z g n c m D) (hT : TabR w V tm U tk t) (hP : TabsR w Y p D.plan) (hQ : DTl w lo Q q cq D.asked) (hlo : lo ≤ w.heap.size) (hq : q ≤ 1000000) :
    Calls Tryz.prog 91 #[.agg #[.slice P g cg, .slice A n c, .slice Z m cm, .slice Y p cp, .int .i64 D.cost.a, .int .i64 D.cost.b, .int .i64 D.cost.c, .int .i64 D.cost.d, .int .i64 D.bud.a, .int .i64 D.bud.b, .int .i64 D.bud.c, .int .i64 D.bud.d, .int .i64 D.floor, .slice Q q cq], .agg #[.int .i64 t.lv, .slice V tm td, .slice U tk te, .int .i64 t.sum]] w (JAsk P A Z Y Q q cq g cg n c m cm p cp D t lo w) := by
  obtain ⟨i0, hi, hz0, hz1, hz2⟩ := info_parts Tryz.infoTable
  obtain ⟨b0, xs, xt, xr, hsz⟩ := box_three w #[.slice P g cg, .slice A n c, .slice Z m cm, .slice Y p cp, .int .i64 D.cost.a, .int .i64 D.cost.b, .int .i64 D.cost.c, .int .i64 D.cost.d, .int .i64 D.bud.a, .int .i64 D.bud.b, .int .i64 D.bud.c, .int .i64 D.bud.d, .int .i64 D.floor, .slice Q q cq] #[.int .i64 t.lv, .slice V tm td, .slice U tk te, .int .i64 t.sum] #[.slice none 0 0, .slice none 0 0, .slice none 0 0, .slice none 0 0, .int .i64 0, .int .i64 0, .int .i64 0, .int .i64 0, .int .i64 0, .int .i64 0, .int .i64 0, .int .i64 0, .int .i64 0, .slice none 0 0] 44 56 44
  have HS := Lib.hid hsz
  have HO := Lib.hid hO
  have HTS := Lib.hid hts
  have HR0 := Lib.hid hR
  have HT0 := Lib.hid hT
  have HR := Lib.hid (hR.below b0)
  have HT := Lib.hid (hT.below b0)
  have HP := Lib.hid (hP.below b0)
  have HQ := Lib.hid (hQ.below b0)
  have Xs := Lib.hid xs
  have Xt := Lib.hid xt
  have Xr := Lib.hid xr
  have HB := Lib.hid b0
  clear xs xt xr hsz b0 hO hts hR hT hP hQ
  have ls := lt_of_block Xs.out
  have lt := lt_of_block Xt.out
  have cs0 := bxc Xs.out 0 _ rfl
  have cs1 := bxc Xs.out 1 _ rfl
  have cs2 := bxc Xs.out 2 _ rfl
  have cs3 := bxc Xs.out 3 _ rfl
  have cs4 := bxc Xs.out 4 _ rfl
  have cs5 := bxc Xs.out 5 _ rfl
  have cs6 := bxc Xs.out 6 _ rfl
  have cs7 := bxc Xs.out 7 _ rfl
  have cs8 := bxc Xs.out 8 _ rfl
  have cs9 := bxc Xs.out 9 _ rfl
  have cs10 := bxc Xs.out 10 _ rfl
  have cs11 := bxc Xs.out 11 _ rfl
  have cs12 := bxc Xs.out 12 _ rfl
  have cs13 := bxc Xs.out 13 _ rfl
  have ct0 := bxc Xt.out 0 _ rfl
  have ct1 := bxc Xt.out 1 _ rfl
  have ct2 := bxc Xt.out 2 _ rfl
  have ct3 := bxc Xt.out 3 _ rfl
  go_enter Tryz.func91, Tryz.ntmps91
  go_wp2_with fail
  generalize (((w.alloc (.cells #[.slice P g cg, .slice A n c, .slice Z m cm, .slice Y p cp, .int .i64 D.cost.a, .int .i64 D.cost.b, .int .i64 D.cost.c, .int .i64 D.cost.d, .int .i64 D.bud.a, .int .i64 D.bud.b, .int .i64 D.bud.c, .int .i64 D.bud.d, .int .i64 D.floor, .slice Q q cq] 44)).alloc (.cells #[.int .i64 t.lv, .slice V tm td, .slice U tk te, .int .i64 t.sum] 56)).alloc (.cells #[.slice none 0 0, .slice none 0 0, .slice none 0 0, .slice none 0 0, .int .i64 0, .int .i64 0, .int .i64 0, .int .i64 0, .int .i64 0, .int .i64 0, .int .i64 0, .int .i64 0, .int .i64 0, .slice none 0 0] 44)) = w1 at *
  refine (queryCode_any P A Z Y Q g cg n c m cm p cp q cq D V U tm td tk te t D.asked _ HO.out hc hb HTS.out HR.out HT.out HP.out (HQ.out.tabs (by omega))).mono ?_
  rintro e w2 ⟨rfl, b2⟩
  obtain ⟨K, hK⟩ : ∃ K, Hid (codeV D D.asked t = K) := ⟨_, Lib.hid rfl⟩
  rw [hK.out]
  have HR2 := Lib.hid (HR.out.below b2)
  have HT2 := Lib.hid (HT.out.below b2)
  have HQ2 := Lib.hid (HQ.out.below b2)
  have Xs2 := Lib.hid (bxb Xs.out b2)
  have Xt2 := Lib.hid (bxb Xt.out b2)
  have Xr2 := Lib.hid (bxb Xr.out b2)
  have HB2 := Lib.hid (HB.out.trans (b2.mono HB.out.size))
  have hw1 := HS.out
  have z2 := b2.size
  have hw2 : w.heap.size + 1 + 1 + 1 ≤ w2.heap.size := by omega
  clear HR HT HP HQ Xs Xt Xr HB b2 hw1 ls lt cs0 cs1 cs2 cs3 cs4 cs5 cs6 cs7 cs8 cs9 cs10 cs11 cs12 cs13 ct0 ct1 ct2 ct3
  by_cases hk : K = 0
  · subst hk
    have HO0 := Lib.hid (tab_len HO.out (code0_tab hK.out))
    have cs13 := bxc Xs2.out 13 _ rfl
    have lt := lt_of_block Xt2.out
    have ct0 := bxc Xt2.out 0 _ rfl
    have ct1 := bxc Xt2.out 1 _ rfl
    have ct2 := bxc Xt2.out 2 _ rfl
    have ct3 := bxc Xt2.out 3 _ rfl
    go_wp2_with fail
    refine (indexOfTable_any Q V U q cq tm td tk te D.asked t _ (HQ2.out.tabs (by omega)) HT2.out).mono ?_
    rintro e w3 ⟨rfl, b3⟩
    obtain ⟨f, hf⟩ : ∃ f, Hid (fndT D.asked t = f) := ⟨_, Lib.hid rfl⟩
    rw [hf.out]
    have HR3 := Lib.hid (HR2.out.below b3)
    have HT3 := Lib.hid (HT2.out.below b3)
    have HQ3 := Lib.hid (HQ2.out.below b3)
    have Xs3 := Lib.hid (bxb Xs2.out b3)
    have Xt3 := Lib.hid (bxb Xt2.out b3)
    have Xr3 := Lib.hid (bxb Xr2.out b3)
    have HB3 := Lib.hid (HB2.out.trans (b3.mono HB2.out.size))
    have z3 := b3.size
    clear HR2 HT2 HQ2 Xs2 Xt2 Xr2 HB2 b3 cs13 lt ct0 ct1 ct2 ct3
    by_cases hf0 : f < 0
    · have hd : decide (f < 0) = true := by simpa using hf0
      have HF := Lib.hid hf0
      clear hf0
      have cs13 := bxc Xs3.out 13 _ rfl
      have f13 := bxf Xs3.out 13
      have ls := lt_of_block Xs3.out
      have lt := lt_of_block Xt3.out
      have ct0 := bxc Xt3.out 0 _ rfl
      have ct1 := bxc Xt3.out 1 _ rfl
      have ct2 := bxc Xt3.out 2 _ rfl
      have ct3 := bxc Xt3.out 3 _ rfl
      go_wp2_with fail
      go_region_law ((first | (go_simp; go_at_call 144; refine (copyTables_any Q q cq D.asked _ ((HQ3.out.tabs (by omega)).below (Below.refl _ _).drew)).mono ?_; rintro e w4 ⟨E, ce, rfl, hD4, b4⟩; have b4' : Below w3.heap.size w3 w4 := (Below.refl _ _).drew.trans b4; have HD4 : Hid (DTl w4 w3.heap.size E q ce D.asked) := Lib.hid hD4; have Xs4 := Lib.hid (bxb Xs3.out b4'); have Xt4 := Lib.hid (bxb Xt3.out b4'); have Xr4 := Lib.hid (bxb Xr3.out b4'); have HB4 := Lib.hid (HB3.out.trans (b4'.mono HB3.out.size)); have z4 := b4'.size; have lt4 := lt_of_block Xt4.out; have dt0 := bxc Xt4.out 0 _ rfl; have dt1 := bxc Xt4.out 1 _ rfl; have dt2 := bxc Xt4.out 2 _ rfl; have dt3 := bxc Xt4.out 3 _ rfl; clear hD4 b4 b4'; dsimp only) | (go_simp; go_at_call 145; refine (copyTable_any V U tm td tk te t _ (HT0.out.below HB4.out)).mono ?_; rintro e w5 ⟨V', cv, U', cu, rfl, oV, oU, b5⟩; have HD5 := Lib.hid (HD4.out.below b5); have z5 := b5.size; have OV := Lib.hid (oV.fit (show w3.heap.size ≤ w4.heap.size by omega)); have OU := Lib.hid (oU.fit (show w3.heap.size ≤ w4.heap.size by omega)); have Xs5 := Lib.hid (bxb Xs4.out b5); have Xt5 := Lib.hid (bxb Xt4.out b5); have Xr5 := Lib.hid (bxb Xr4.out b5); have HB5 := Lib.hid (HB4.out.trans (b5.mono HB4.out.size)); obtain ⟨ys5, ho5⟩ := HD5.out.rows; have hz5 : w3.heap.size ≤ w5.heap.size := (by omega); clear oV oU b5; dsimp only) | (refine step_appG (cs := #[.int .i64 t.lv, .slice V' tm cv, .slice U' tk cu, .int .i64 t.sum]) (by rfl) _ _ (by rfl) Tryz.underlying39 hi hz0 hz1 hz2 rfl (by omega) (by omega) rfl (by simp [Value.oneCell']) w3.heap.size E q ce ys5 (by rfl) ho5 _ (by rfl) (by simp) (by omega) (by omega) ?_; intro A9 c9 w9 own9 grow9 _; have D9 := Lib.hid (DTl.snoc (t := t) HD5.out ho5 OV.out OU.out grow9 own9); have Xs9 := Lib.hid (box_app2 Xs5.out grow9 (HD5.out.ne_box Xs5.out (by decide))); have Xt9 := Lib.hid (box_app2 Xt5.out grow9 (fun e => by have h1 := (HD5.out.row_ge _ e).1; omega)); have Xr9 := Lib.hid (box_app2 Xr5.out grow9 (HD5.out.ne_box Xr5.out (by decide))); have HB9 := Lib.hid (HB5.out.grown grow9 (by omega) (fun k hk => by have h1 := (HD5.out.row_ge _ hk).1; omega)); have q13 := bxc Xs9.out 13 _ rfl; have p13 := bxf Xs9.out 13)))
      all_goals (have D10 := Lib.hid ((D9.out.off (w' := w9.setCell ⟨w.heap.size, 13, none⟩ (.slice A9 (q + 1) c9)) Xs9.out (by decide) (by decide) (fun k hk => Below.heap_setCell w9 ⟨w.heap.size, 13, none⟩ _ k hk) (by simp)).mono (show w.heap.size ≤ w3.heap.size by omega)); have Xs10 : Hid ((w9.setCell ⟨w.heap.size, 13, none⟩ (.slice A9 (q + 1) c9)).heap[w.heap.size]? = some (.cells #[.slice P g cg, .slice A n c, .slice Z m cm, .slice Y p cp, .int .i64 D.cost.a, .int .i64 D.cost.b, .int .i64 D.cost.c, .int .i64 D.cost.d, .int .i64 D.bud.a, .int .i64 D.bud.b, .int .i64 D.bud.c, .int .i64 D.bud.d, .int .i64 D.floor, .slice A9 (q + 1) c9] 44 (0, 0))) := Lib.hid (box_set Xs9.out 13 _); have Xt10 := Lib.hid (box_off (p := ⟨w.heap.size, 13, none⟩) Xt9.out (by simp) (.slice A9 (q + 1) c9)); have Xr10 := Lib.hid (box_off (p := ⟨w.heap.size, 13, none⟩) Xr9.out (by simp; omega) (.slice A9 (q + 1) c9)); have HB10 := Lib.hid (HB9.out.setCell (p := ⟨w.heap.size, 13, none⟩) (by simp) (.slice A9 (q + 1) c9)))
      all_goals (have hs10 : (w9.setCell ⟨w.heap.size, 13, none⟩ (.slice A9 (q + 1) c9)).heap.size = w9.heap.size := by simp)
      all_goals (have hw10 : w.heap.size + 1 + 1 + 1 ≤ w9.heap.size := by have h1 := grow9.size; have h2 := z3; omega)
      all_goals (have HRQ := Lib.hid (fun (r : Nat) (h : rowOf A9 = some r) => (show w.heap.size ≤ r by have h1 := (D9.out.row_ge r h).1; omega)))
      all_goals (clear q13 p13 Xs9 Xt9 Xr9 HB9 D9 own9 grow9 ho5 OV OU HD5 Xs5 Xt5 Xr5 HB5 HD4 Xs4 Xt4 Xr4 HB4 HR3 HT3 HQ3 Xs3 Xt3 Xr3 HB3 dt0 dt1 dt2 dt3 ct0 ct1 ct2 ct3 lt lt4 ls cs13 f13)
      all_goals (generalize w9.setCell ⟨w.heap.size, 13, none⟩ (.slice A9 (q + 1) c9) = w10 at *)
      all_goals (rw [← hs10] at hw10)
      all_goals (have HA := Lib.hid (asked_2 hK.out (by rw [hf.out]; exact HF.out)))
      all_goals (have ls := lt_of_block Xs10.out; have lt := lt_of_block Xt10.out; have lr := lt_of_block Xr10.out; have HR10 := Lib.hid ((HR0.out.below HB10.out).below (Below.refl _ _).drew); have HT10 := Lib.hid ((HT0.out.below HB10.out).below (Below.refl _ _).drew))
      all_goals (have cs0 := bxc Xs10.out 0 (.slice P g cg) rfl; have cs1 := bxc Xs10.out 1 (.slice A n c) rfl; have cs2 := bxc Xs10.out 2 (.slice Z m cm) rfl; have cs3 := bxc Xs10.out 3 (.slice Y p cp) rfl; have cs4 := bxc Xs10.out 4 (.int .i64 D.cost.a) rfl; have cs5 := bxc Xs10.out 5 (.int .i64 D.cost.b) rfl; have cs6 := bxc Xs10.out 6 (.int .i64 D.cost.c) rfl; have cs7 := bxc Xs10.out 7 (.int .i64 D.cost.d) rfl; have cs8 := bxc Xs10.out 8 (.int .i64 D.bud.a) rfl; have cs9 := bxc Xs10.out 9 (.int .i64 D.bud.b) rfl; have cs10 := bxc Xs10.out 10 (.int .i64 D.bud.c) rfl; have cs11 := bxc Xs10.out 11 (.int .i64 D.bud.d) rfl; have cs12 := bxc Xs10.out 12 (.int .i64 D.floor) rfl; have cs13 := bxc Xs10.out 13 (.slice A9 (q + 1) c9) rfl; have ct0 := bxc Xt10.out 0 _ rfl; have ct1 := bxc Xt10.out 1 _ rfl; have ct2 := bxc Xt10.out 2 _ rfl; have ct3 := bxc Xt10.out 3 _ rfl)
      all_goals (go_wp2_with fail)
      all_goals (have E10 : w10.drew.cell? ⟨w.heap.size, 0, none⟩ = some (.slice P g cg) ∧ w10.drew.cell? ⟨w.heap.size, 1, none⟩ = some (.slice A n c) ∧ w10.drew.cell? ⟨w.heap.size, 2, none⟩ = some (.slice Z m cm) ∧ w10.drew.cell? ⟨w.heap.size, 3, none⟩ = some (.slice Y p cp) ∧ w10.drew.cell? ⟨w.heap.size, 4, none⟩ = some (.int .i64 D.cost.a) ∧ w10.drew.cell? ⟨w.heap.size, 5, none⟩ = some (.int .i64 D.cost.b) ∧ w10.drew.cell? ⟨w.heap.size, 6, none⟩ = some (.int .i64 D.cost.c) ∧ w10.drew.cell? ⟨w.heap.size, 7, none⟩ = some (.int .i64 D.cost.d) ∧ w10.drew.cell? ⟨w.heap.size, 8, none⟩ = some (.int .i64 D.bud.a) ∧ w10.drew.cell? ⟨w.heap.size, 9, none⟩ = some (.int .i64 D.bud.b) ∧ w10.drew.cell? ⟨w.heap.size, 10, none⟩ = some (.int .i64 D.bud.c) ∧ w10.drew.cell? ⟨w.heap.size, 11, none⟩ = some (.int .i64 D.bud.d) ∧ w10.drew.cell? ⟨w.heap.size, 12, none⟩ = some (.int .i64 D.floor) ∧ w10.drew.cell? ⟨w.heap.size, 13, none⟩ = some (.slice A9 (q + 1) c9) ∧ w10.drew.cell? ⟨w.heap.size + 1, 0, none⟩ = some (.int .i64 t.lv) ∧ w10.drew.cell? ⟨w.heap.size + 1, 1, none⟩ = some (.slice V tm td) ∧ w10.drew.cell? ⟨w.heap.size + 1, 2, none⟩ = some (.slice U tk te) ∧ w10.drew.cell? ⟨w.heap.size + 1, 3, none⟩ = some (.int .i64 t.sum) := ⟨cs0, cs1, cs2, cs3, cs4, cs5, cs6, cs7, cs8, cs9, cs10, cs11, cs12, cs13, ct0, ct1, ct2, ct3⟩)
      all_goals (go_region_held3 (fun w' => w'.cell? ⟨w.heap.size, 0, none⟩ = some (.slice P g cg) ∧ w'.cell? ⟨w.heap.size, 1, none⟩ = some (.slice A n c) ∧ w'.cell? ⟨w.heap.size, 2, none⟩ = some (.slice Z m cm) ∧ w'.cell? ⟨w.heap.size, 3, none⟩ = some (.slice Y p cp) ∧ w'.cell? ⟨w.heap.size, 4, none⟩ = some (.int .i64 D.cost.a) ∧ w'.cell? ⟨w.heap.size, 5, none⟩ = some (.int .i64 D.cost.b) ∧ w'.cell? ⟨w.heap.size, 6, none⟩ = some (.int .i64 D.cost.c) ∧ w'.cell? ⟨w.heap.size, 7, none⟩ = some (.int .i64 D.cost.d) ∧ w'.cell? ⟨w.heap.size, 8, none⟩ = some (.int .i64 D.bud.a) ∧ w'.cell? ⟨w.heap.size, 9, none⟩ = some (.int .i64 D.bud.b) ∧ w'.cell? ⟨w.heap.size, 10, none⟩ = some (.int .i64 D.bud.c) ∧ w'.cell? ⟨w.heap.size, 11, none⟩ = some (.int .i64 D.bud.d) ∧ w'.cell? ⟨w.heap.size, 12, none⟩ = some (.int .i64 D.floor) ∧ w'.cell? ⟨w.heap.size, 13, none⟩ = some (.slice A9 (q + 1) c9) ∧ w'.cell? ⟨w.heap.size + 1, 0, none⟩ = some (.int .i64 t.lv) ∧ w'.cell? ⟨w.heap.size + 1, 1, none⟩ = some (.slice V tm td) ∧ w'.cell? ⟨w.heap.size + 1, 2, none⟩ = some (.slice U tk te) ∧ w'.cell? ⟨w.heap.size + 1, 3, none⟩ = some (.int .i64 t.sum)) (first | with_reducible exact ⟨ds0, ds1, ds2, ds3, ds4, ds5, ds6, ds7, ds8, ds9, ds10, ds11, ds12, ds13, dt0, dt1, dt2, dt3⟩ | with_reducible exact E10 | with_reducible exact ⟨bxc X12.out 0 _ rfl, bxc X12.out 1 _ rfl, bxc X12.out 2 _ rfl, bxc X12.out 3 _ rfl, bxc X12.out 4 _ rfl, bxc X12.out 5 _ rfl, bxc X12.out 6 _ rfl, bxc X12.out 7 _ rfl, bxc X12.out 8 _ rfl, bxc X12.out 9 _ rfl, bxc X12.out 10 _ rfl, bxc X12.out 11 _ rfl, bxc X12.out 12 _ rfl, bxc X12.out 13 _ rfl, bxc Y12.out 0 _ rfl, bxc Y12.out 1 _ rfl, bxc Y12.out 2 _ rfl, bxc Y12.out 3 _ rfl⟩ | go_keep) ((go_at_call 103; refine (tableOf_any P A V U Z g cg n c tm td tk te m cm D.par t D.vs D.rs _ (HO.out.tab HR10.out (code0_tab hK.out)) HO.out.d (by exact HR10.out.p) (by exact HR10.out.s) (by exact HT10.out) (by exact HR10.out.d)).mono ?_; rintro e w11 ⟨B, cb, rfl, oB, b11⟩; have b11' : Below w10.heap.size w10 w11 := (Below.refl _ _).drew.trans b11; have oB' : Own w11 w10.heap.size B (cntV D.par D.vs t).toNat cb (D.tbl t) := oB; have Xs11 := Lib.hid (bxb Xs10.out b11'); have Xt11 := Lib.hid (bxb Xt10.out b11'); have Xr11 := Lib.hid (bxb Xr10.out b11'); have HB11 := Lib.hid (HB10.out.trans (b11'.mono HB10.out.size)); have D11 := Lib.hid (D10.out.below b11'); have OB := Lib.hid oB'; have ds0 := bxc Xs11.out 0 (.slice P g cg) rfl; have ds1 := bxc Xs11.out 1 (.slice A n c) rfl; have ds2 := bxc Xs11.out 2 (.slice Z m cm) rfl; have ds3 := bxc Xs11.out 3 (.slice Y p cp) rfl; have ds4 := bxc Xs11.out 4 (.int .i64 D.cost.a) rfl; have ds5 := bxc Xs11.out 5 (.int .i64 D.cost.b) rfl; have ds6 := bxc Xs11.out 6 (.int .i64 D.cost.c) rfl; have ds7 := bxc Xs11.out 7 (.int .i64 D.cost.d) rfl; have ds8 := bxc Xs11.out 8 (.int .i64 D.bud.a) rfl; have ds9 := bxc Xs11.out 9 (.int .i64 D.bud.b) rfl; have ds10 := bxc Xs11.out 10 (.int .i64 D.bud.c) rfl; have ds11 := bxc Xs11.out 11 (.int .i64 D.bud.d) rfl; have ds12 := bxc Xs11.out 12 (.int .i64 D.floor) rfl; have ds13 := bxc Xs11.out 13 (.slice A9 (q + 1) c9) rfl; have dt0 := bxc Xt11.out 0 _ rfl; have dt1 := bxc Xt11.out 1 _ rfl; have dt2 := bxc Xt11.out 2 _ rfl; have dt3 := bxc Xt11.out 3 _ rfl; have dr0 := bxc Xr11.out 0 _ rfl; have fr0 := bxf Xr11.out 0; have dr1 := bxc Xr11.out 1 _ rfl; have fr1 := bxf Xr11.out 1; have dr2 := bxc Xr11.out 2 _ rfl; have fr2 := bxf Xr11.out 2; have dr3 := bxc Xr11.out 3 _ rfl; have fr3 := bxf Xr11.out 3; have dr4 := bxc Xr11.out 4 _ rfl; have fr4 := bxf Xr11.out 4; have dr5 := bxc Xr11.out 5 _ rfl; have fr5 := bxf Xr11.out 5; have dr6 := bxc Xr11.out 6 _ rfl; have fr6 := bxf Xr11.out 6; have dr7 := bxc Xr11.out 7 _ rfl; have fr7 := bxf Xr11.out 7; have dr8 := bxc Xr11.out 8 _ rfl; have fr8 := bxf Xr11.out 8; have dr9 := bxc Xr11.out 9 _ rfl; have fr9 := bxf Xr11.out 9; have dr10 := bxc Xr11.out 10 _ rfl; have fr10 := bxf Xr11.out 10; have dr11 := bxc Xr11.out 11 _ rfl; have fr11 := bxf Xr11.out 11; have dr12 := bxc Xr11.out 12 _ rfl; have fr12 := bxf Xr11.out 12; have dr13 := bxc Xr11.out 13 _ rfl; have fr13 := bxf Xr11.out 13; have lr11 := lt_of_block Xr11.out; have X12 := Lib.hid (far14 (b := w.heap.size + 1 + 1) (y0 := .slice P g cg) (y1 := .slice A n c) (y2 := .slice Z m cm) (y3 := .slice Y p cp) (y4 := .int .i64 D.cost.a) (y5 := .int .i64 D.cost.b) (y6 := .int .i64 D.cost.c) (y7 := .int .i64 D.cost.d) (y8 := .int .i64 D.bud.a) (y9 := .int .i64 D.bud.b) (y10 := .int .i64 D.bud.c) (y11 := .int .i64 D.bud.d) (y12 := .int .i64 D.floor) (y13 := .slice A9 (q + 1) c9) Xs11.out (by omega)); have Y12 := Lib.hid (far14 (b := w.heap.size + 1 + 1) (y0 := .slice P g cg) (y1 := .slice A n c) (y2 := .slice Z m cm) (y3 := .slice Y p cp) (y4 := .int .i64 D.cost.a) (y5 := .int .i64 D.cost.b) (y6 := .int .i64 D.cost.c) (y7 := .int .i64 D.cost.d) (y8 := .int .i64 D.bud.a) (y9 := .int .i64 D.bud.b) (y10 := .int .i64 D.bud.c) (y11 := .int .i64 D.bud.d) (y12 := .int .i64 D.floor) (y13 := .slice A9 (q + 1) c9) Xt11.out (by omega)); clear oB oB' b11 b11')))
      all_goals (have RX := Lib.hid (fill14n (y0 := .slice P g cg) (y1 := .slice A n c) (y2 := .slice Z m cm) (y3 := .slice Y p cp) (y4 := .int .i64 D.cost.a) (y5 := .int .i64 D.cost.b) (y6 := .int .i64 D.cost.c) (y7 := .int .i64 D.cost.d) (y8 := .int .i64 D.bud.a) (y9 := .int .i64 D.bud.b) (y10 := .int .i64 D.bud.c) (y11 := .int .i64 D.bud.d) (y12 := .int .i64 D.floor) (y13 := .slice A9 (q + 1) c9) Xr11.out))
      all_goals (have rr0 := bxc RX.out 0 (.slice P g cg) rfl; have rr1 := bxc RX.out 1 (.slice A n c) rfl; have rr2 := bxc RX.out 2 (.slice Z m cm) rfl; have rr3 := bxc RX.out 3 (.slice Y p cp) rfl; have rr4 := bxc RX.out 4 (.int .i64 D.cost.a) rfl; have rr5 := bxc RX.out 5 (.int .i64 D.cost.b) rfl; have rr6 := bxc RX.out 6 (.int .i64 D.cost.c) rfl; have rr7 := bxc RX.out 7 (.int .i64 D.cost.d) rfl; have rr8 := bxc RX.out 8 (.int .i64 D.bud.a) rfl; have rr9 := bxc RX.out 9 (.int .i64 D.bud.b) rfl; have rr10 := bxc RX.out 10 (.int .i64 D.bud.c) rfl; have rr11 := bxc RX.out 11 (.int .i64 D.bud.d) rfl; have rr12 := bxc RX.out 12 (.int .i64 D.floor) rfl; have rr13 := bxc RX.out 13 (.slice A9 (q + 1) c9) rfl)
      all_goals (have hz := puts_size (g := w.heap.size + 1 + 1) [(0, .slice P g cg), (1, .slice A n c), (2, .slice Z m cm), (3, .slice Y p cp), (4, .int .i64 D.cost.a), (5, .int .i64 D.cost.b), (6, .int .i64 D.cost.c), (7, .int .i64 D.cost.d), (8, .int .i64 D.bud.a), (9, .int .i64 D.bud.b), (10, .int .i64 D.bud.c), (11, .int .i64 D.bud.d), (12, .int .i64 D.floor), (13, .slice A9 (q + 1) c9)] w11; have hn := (fun k (hk : k ≠ w.heap.size + 1 + 1) => puts_ne (g := w.heap.size + 1 + 1) [(0, .slice P g cg), (1, .slice A n c), (2, .slice Z m cm), (3, .slice Y p cp), (4, .int .i64 D.cost.a), (5, .int .i64 D.cost.b), (6, .int .i64 D.cost.c), (7, .int .i64 D.cost.d), (8, .int .i64 D.bud.a), (9, .int .i64 D.bud.b), (10, .int .i64 D.bud.c), (11, .int .i64 D.bud.d), (12, .int .i64 D.floor), (13, .slice A9 (q + 1) c9)] w11 hk); have hb := puts_below (g := w.heap.size + 1 + 1) [(0, .slice P g cg), (1, .slice A n c), (2, .slice Z m cm), (3, .slice Y p cp), (4, .int .i64 D.cost.a), (5, .int .i64 D.cost.b), (6, .int .i64 D.cost.c), (7, .int .i64 D.cost.d), (8, .int .i64 D.bud.a), (9, .int .i64 D.bud.b), (10, .int .i64 D.bud.c), (11, .int .i64 D.bud.d), (12, .int .i64 D.floor), (13, .slice A9 (q + 1) c9)] w11 HB11.out (by omega))
      all_goals (have hB := OB.out.keep (w' := puts w11 (w.heap.size + 1 + 1) [(0, .slice P g cg), (1, .slice A n c), (2, .slice Z m cm), (3, .slice Y p cp), (4, .int .i64 D.cost.a), (5, .int .i64 D.cost.b), (6, .int .i64 D.cost.c), (7, .int .i64 D.cost.d), (8, .int .i64 D.bud.a), (9, .int .i64 D.bud.b), (10, .int .i64 D.bud.c), (11, .int .i64 D.bud.d), (12, .int .i64 D.floor), (13, .slice A9 (q + 1) c9)]) (fun k hA _ => hn k (by rintro rfl; exact own_ne OB.out Xr11.out (by decide) (by rw [hA]; rfl))))
      all_goals (have FIN := Lib.hid (show JAsk P A Z Y Q q cq g cg n c m cm p cp D t lo w (.returned (.tuple #[.agg #[.slice P g cg, .slice A n c, .slice Z m cm, .slice Y p cp, .int .i64 D.cost.a, .int .i64 D.cost.b, .int .i64 D.cost.c, .int .i64 D.cost.d, .int .i64 D.bud.a, .int .i64 D.bud.b, .int .i64 D.bud.c, .int .i64 D.bud.d, .int .i64 D.floor, .slice A9 (q + 1) c9], .slice B (cntV D.par D.vs t).toNat cb, .int .i64 0])) (puts w11 (w.heap.size + 1 + 1) [(0, .slice P g cg), (1, .slice A n c), (2, .slice Z m cm), (3, .slice Y p cp), (4, .int .i64 D.cost.a), (5, .int .i64 D.cost.b), (6, .int .i64 D.cost.c), (7, .int .i64 D.cost.d), (8, .int .i64 D.bud.a), (9, .int .i64 D.bud.b), (10, .int .i64 D.bud.c), (11, .int .i64 D.bud.d), (12, .int .i64 D.floor), (13, .slice A9 (q + 1) c9)]) from ⟨_, _, _, B, _, cb, by rw [hK.out], by rw [HA.out]; exact (D11.out.off Xr11.out (by decide) (by decide) hn hz).mono hlo, by rw [cells_2 hK.out]; exact (OwnI.of_own hB (Nat.le_trans (cntV_bd (tabB_ok HO.out.g HO.out.s (code0_tab hK.out))) (by decide))).fit (by omega), hb, fun r hr => .inr (HRQ.out r hr), .inr (by rw [HA.out]; exact D11.out.off Xr11.out (by decide) (by decide) hn hz)⟩))
      all_goals (clear hz hn hb hB RX E10 HR10 HT10 X12 Y12 Xs11 Xt11 Xr11 OB D11 HB11 ls lt lr lr11 cs0 cs1 cs2 cs3 cs4 cs5 cs6 cs7 cs8 cs9 cs10 cs11 cs12 cs13 ct0 ct1 ct2 ct3 ds0 ds1 ds2 ds3 ds4 ds5 ds6 ds7 ds8 ds9 ds10 ds11 ds12 ds13 dt0 dt1 dt2 dt3 dr0 dr1 dr2 dr3 dr4 dr5 dr6 dr7 dr8 dr9 dr10 dr11 dr12 dr13 fr0 fr1 fr2 fr3 fr4 fr5 fr6 fr7 fr8 fr9 fr10 fr11 fr12 fr13)
      all_goals (go_wp2)
      all_goals (exact bodyPost_ret (v := .tuple #[.agg #[.slice P g cg, .slice A n c, .slice Z m cm, .slice Y p cp, .int .i64 D.cost.a, .int .i64 D.cost.b, .int .i64 D.cost.c, .int .i64 D.cost.d, .int .i64 D.bud.a, .int .i64 D.bud.b, .int .i64 D.bud.c, .int .i64 D.bud.d, .int .i64 D.floor, .slice A9 (q + 1) c9], .slice B (cntV D.par D.vs t).toNat cb, .int .i64 0]) (by simp [results, Tryz.results91, go_sem, rr0, rr1, rr2, rr3, rr4, rr5, rr6, rr7, rr8, rr9, rr10, rr11, rr12, rr13]) rfl FIN.out)
    · have hd : decide (f < 0) = false := by simpa using hf0
      have HF := Lib.hid hf0
      clear hf0
      have HA := Lib.hid (asked_3 hK.out (by rw [hf.out]; exact HF.out))
      have Xs10 := Xs3
      have Xt10 := Xt3
      have Xr10 := Xr3
      have HB10 := HB3
      have D10 := HQ3
      have hw10 : w.heap.size + 1 + 1 + 1 ≤ w3.heap.size := by omega
      clear Xs3 Xt3 Xr3 HB3 HQ3 HR3 HT3
      have ls := lt_of_block Xs10.out; have lt := lt_of_block Xt10.out; have lr := lt_of_block Xr10.out; have HR10 := Lib.hid ((HR0.out.below HB10.out).below (Below.refl _ _).drew); have HT10 := Lib.hid ((HT0.out.below HB10.out).below (Below.refl _ _).drew)
      have cs0 := bxc Xs10.out 0 (.slice P g cg) rfl; have cs1 := bxc Xs10.out 1 (.slice A n c) rfl; have cs2 := bxc Xs10.out 2 (.slice Z m cm) rfl; have cs3 := bxc Xs10.out 3 (.slice Y p cp) rfl; have cs4 := bxc Xs10.out 4 (.int .i64 D.cost.a) rfl; have cs5 := bxc Xs10.out 5 (.int .i64 D.cost.b) rfl; have cs6 := bxc Xs10.out 6 (.int .i64 D.cost.c) rfl; have cs7 := bxc Xs10.out 7 (.int .i64 D.cost.d) rfl; have cs8 := bxc Xs10.out 8 (.int .i64 D.bud.a) rfl; have cs9 := bxc Xs10.out 9 (.int .i64 D.bud.b) rfl; have cs10 := bxc Xs10.out 10 (.int .i64 D.bud.c) rfl; have cs11 := bxc Xs10.out 11 (.int .i64 D.bud.d) rfl; have cs12 := bxc Xs10.out 12 (.int .i64 D.floor) rfl; have cs13 := bxc Xs10.out 13 (.slice Q q cq) rfl; have ct0 := bxc Xt10.out 0 _ rfl; have ct1 := bxc Xt10.out 1 _ rfl; have ct2 := bxc Xt10.out 2 _ rfl; have ct3 := bxc Xt10.out 3 _ rfl
      go_wp2_with fail
      have E10 : w3.drew.cell? ⟨w.heap.size, 0, none⟩ = some (.slice P g cg) ∧ w3.drew.cell? ⟨w.heap.size, 1, none⟩ = some (.slice A n c) ∧ w3.drew.cell? ⟨w.heap.size, 2, none⟩ = some (.slice Z m cm) ∧ w3.drew.cell? ⟨w.heap.size, 3, none⟩ = some (.slice Y p cp) ∧ w3.drew.cell? ⟨w.heap.size, 4, none⟩ = some (.int .i64 D.cost.a) ∧ w3.drew.cell? ⟨w.heap.size, 5, none⟩ = some (.int .i64 D.cost.b) ∧ w3.drew.cell? ⟨w.heap.size, 6, none⟩ = some (.int .i64 D.cost.c) ∧ w3.drew.cell? ⟨w.heap.size, 7, none⟩ = some (.int .i64 D.cost.d) ∧ w3.drew.cell? ⟨w.heap.size, 8, none⟩ = some (.int .i64 D.bud.a) ∧ w3.drew.cell? ⟨w.heap.size, 9, none⟩ = some (.int .i64 D.bud.b) ∧ w3.drew.cell? ⟨w.heap.size, 10, none⟩ = some (.int .i64 D.bud.c) ∧ w3.drew.cell? ⟨w.heap.size, 11, none⟩ = some (.int .i64 D.bud.d) ∧ w3.drew.cell? ⟨w.heap.size, 12, none⟩ = some (.int .i64 D.floor) ∧ w3.drew.cell? ⟨w.heap.size, 13, none⟩ = some (.slice Q q cq) ∧ w3.drew.cell? ⟨w.heap.size + 1, 0, none⟩ = some (.int .i64 t.lv) ∧ w3.drew.cell? ⟨w.heap.size + 1, 1, none⟩ = some (.slice V tm td) ∧ w3.drew.cell? ⟨w.heap.size + 1, 2, none⟩ = some (.slice U tk te) ∧ w3.drew.cell? ⟨w.heap.size + 1, 3, none⟩ = some (.int .i64 t.sum) := ⟨cs0, cs1, cs2, cs3, cs4, cs5, cs6, cs7, cs8, cs9, cs10, cs11, cs12, cs13, ct0, ct1, ct2, ct3⟩
      go_region_held3 (fun w' => w'.cell? ⟨w.heap.size, 0, none⟩ = some (.slice P g cg) ∧ w'.cell? ⟨w.heap.size, 1, none⟩ = some (.slice A n c) ∧ w'.cell? ⟨w.heap.size, 2, none⟩ = some (.slice Z m cm) ∧ w'.cell? ⟨w.heap.size, 3, none⟩ = some (.slice Y p cp) ∧ w'.cell? ⟨w.heap.size, 4, none⟩ = some (.int .i64 D.cost.a) ∧ w'.cell? ⟨w.heap.size, 5, none⟩ = some (.int .i64 D.cost.b) ∧ w'.cell? ⟨w.heap.size, 6, none⟩ = some (.int .i64 D.cost.c) ∧ w'.cell? ⟨w.heap.size, 7, none⟩ = some (.int .i64 D.cost.d) ∧ w'.cell? ⟨w.heap.size, 8, none⟩ = some (.int .i64 D.bud.a) ∧ w'.cell? ⟨w.heap.size, 9, none⟩ = some (.int .i64 D.bud.b) ∧ w'.cell? ⟨w.heap.size, 10, none⟩ = some (.int .i64 D.bud.c) ∧ w'.cell? ⟨w.heap.size, 11, none⟩ = some (.int .i64 D.bud.d) ∧ w'.cell? ⟨w.heap.size, 12, none⟩ = some (.int .i64 D.floor) ∧ w'.cell? ⟨w.heap.size, 13, none⟩ = some (.slice Q q cq) ∧ w'.cell? ⟨w.heap.size + 1, 0, none⟩ = some (.int .i64 t.lv) ∧ w'.cell? ⟨w.heap.size + 1, 1, none⟩ = some (.slice V tm td) ∧ w'.cell? ⟨w.heap.size + 1, 2, none⟩ = some (.slice U tk te) ∧ w'.cell? ⟨w.heap.size + 1, 3, none⟩ = some (.int .i64 t.sum)) (first | with_reducible exact ⟨ds0, ds1, ds2, ds3, ds4, ds5, ds6, ds7, ds8, ds9, ds10, ds11, ds12, ds13, dt0, dt1, dt2, dt3⟩ | with_reducible exact E10 | with_reducible exact ⟨bxc X12.out 0 _ rfl, bxc X12.out 1 _ rfl, bxc X12.out 2 _ rfl, bxc X12.out 3 _ rfl, bxc X12.out 4 _ rfl, bxc X12.out 5 _ rfl, bxc X12.out 6 _ rfl, bxc X12.out 7 _ rfl, bxc X12.out 8 _ rfl, bxc X12.out 9 _ rfl, bxc X12.out 10 _ rfl, bxc X12.out 11 _ rfl, bxc X12.out 12 _ rfl, bxc X12.out 13 _ rfl, bxc Y12.out 0 _ rfl, bxc Y12.out 1 _ rfl, bxc Y12.out 2 _ rfl, bxc Y12.out 3 _ rfl⟩ | go_keep) ((go_at_call 103; refine (tableOf_any P A V U Z g cg n c tm td tk te m cm D.par t D.vs D.rs _ (HO.out.tab HR10.out (code0_tab hK.out)) HO.out.d (by exact HR10.out.p) (by exact HR10.out.s) (by exact HT10.out) (by exact HR10.out.d)).mono ?_; rintro e w11 ⟨B, cb, rfl, oB, b11⟩; have b11' : Below w3.heap.size w3 w11 := (Below.refl _ _).drew.trans b11; have oB' : Own w11 w3.heap.size B (cntV D.par D.vs t).toNat cb (D.tbl t) := oB; have Xs11 := Lib.hid (bxb Xs10.out b11'); have Xt11 := Lib.hid (bxb Xt10.out b11'); have Xr11 := Lib.hid (bxb Xr10.out b11'); have HB11 := Lib.hid (HB10.out.trans (b11'.mono HB10.out.size)); have D11 := Lib.hid (D10.out.below b11'); have OB := Lib.hid oB'; have ds0 := bxc Xs11.out 0 (.slice P g cg) rfl; have ds1 := bxc Xs11.out 1 (.slice A n c) rfl; have ds2 := bxc Xs11.out 2 (.slice Z m cm) rfl; have ds3 := bxc Xs11.out 3 (.slice Y p cp) rfl; have ds4 := bxc Xs11.out 4 (.int .i64 D.cost.a) rfl; have ds5 := bxc Xs11.out 5 (.int .i64 D.cost.b) rfl; have ds6 := bxc Xs11.out 6 (.int .i64 D.cost.c) rfl; have ds7 := bxc Xs11.out 7 (.int .i64 D.cost.d) rfl; have ds8 := bxc Xs11.out 8 (.int .i64 D.bud.a) rfl; have ds9 := bxc Xs11.out 9 (.int .i64 D.bud.b) rfl; have ds10 := bxc Xs11.out 10 (.int .i64 D.bud.c) rfl; have ds11 := bxc Xs11.out 11 (.int .i64 D.bud.d) rfl; have ds12 := bxc Xs11.out 12 (.int .i64 D.floor) rfl; have ds13 := bxc Xs11.out 13 (.slice Q q cq) rfl; have dt0 := bxc Xt11.out 0 _ rfl; have dt1 := bxc Xt11.out 1 _ rfl; have dt2 := bxc Xt11.out 2 _ rfl; have dt3 := bxc Xt11.out 3 _ rfl; have dr0 := bxc Xr11.out 0 _ rfl; have fr0 := bxf Xr11.out 0; have dr1 := bxc Xr11.out 1 _ rfl; have fr1 := bxf Xr11.out 1; have dr2 := bxc Xr11.out 2 _ rfl; have fr2 := bxf Xr11.out 2; have dr3 := bxc Xr11.out 3 _ rfl; have fr3 := bxf Xr11.out 3; have dr4 := bxc Xr11.out 4 _ rfl; have fr4 := bxf Xr11.out 4; have dr5 := bxc Xr11.out 5 _ rfl; have fr5 := bxf Xr11.out 5; have dr6 := bxc Xr11.out 6 _ rfl; have fr6 := bxf Xr11.out 6; have dr7 := bxc Xr11.out 7 _ rfl; have fr7 := bxf Xr11.out 7; have dr8 := bxc Xr11.out 8 _ rfl; have fr8 := bxf Xr11.out 8; have dr9 := bxc Xr11.out 9 _ rfl; have fr9 := bxf Xr11.out 9; have dr10 := bxc Xr11.out 10 _ rfl; have fr10 := bxf Xr11.out 10; have dr11 := bxc Xr11.out 11 _ rfl; have fr11 := bxf Xr11.out 11; have dr12 := bxc Xr11.out 12 _ rfl; have fr12 := bxf Xr11.out 12; have dr13 := bxc Xr11.out 13 _ rfl; have fr13 := bxf Xr11.out 13; have lr11 := lt_of_block Xr11.out; have X12 := Lib.hid (far14 (b := w.heap.size + 1 + 1) (y0 := .slice P g cg) (y1 := .slice A n c) (y2 := .slice Z m cm) (y3 := .slice Y p cp) (y4 := .int .i64 D.cost.a) (y5 := .int .i64 D.cost.b) (y6 := .int .i64 D.cost.c) (y7 := .int .i64 D.cost.d) (y8 := .int .i64 D.bud.a) (y9 := .int .i64 D.bud.b) (y10 := .int .i64 D.bud.c) (y11 := .int .i64 D.bud.d) (y12 := .int .i64 D.floor) (y13 := .slice Q q cq) Xs11.out (by omega)); have Y12 := Lib.hid (far14 (b := w.heap.size + 1 + 1) (y0 := .slice P g cg) (y1 := .slice A n c) (y2 := .slice Z m cm) (y3 := .slice Y p cp) (y4 := .int .i64 D.cost.a) (y5 := .int .i64 D.cost.b) (y6 := .int .i64 D.cost.c) (y7 := .int .i64 D.cost.d) (y8 := .int .i64 D.bud.a) (y9 := .int .i64 D.bud.b) (y10 := .int .i64 D.bud.c) (y11 := .int .i64 D.bud.d) (y12 := .int .i64 D.floor) (y13 := .slice Q q cq) Xt11.out (by omega)); clear oB oB' b11 b11'))
      have RX := Lib.hid (fill14n (y0 := .slice P g cg) (y1 := .slice A n c) (y2 := .slice Z m cm) (y3 := .slice Y p cp) (y4 := .int .i64 D.cost.a) (y5 := .int .i64 D.cost.b) (y6 := .int .i64 D.cost.c) (y7 := .int .i64 D.cost.d) (y8 := .int .i64 D.bud.a) (y9 := .int .i64 D.bud.b) (y10 := .int .i64 D.bud.c) (y11 := .int .i64 D.bud.d) (y12 := .int .i64 D.floor) (y13 := .slice Q q cq) Xr11.out)
      have rr0 := bxc RX.out 0 (.slice P g cg) rfl; have rr1 := bxc RX.out 1 (.slice A n c) rfl; have rr2 := bxc RX.out 2 (.slice Z m cm) rfl; have rr3 := bxc RX.out 3 (.slice Y p cp) rfl; have rr4 := bxc RX.out 4 (.int .i64 D.cost.a) rfl; have rr5 := bxc RX.out 5 (.int .i64 D.cost.b) rfl; have rr6 := bxc RX.out 6 (.int .i64 D.cost.c) rfl; have rr7 := bxc RX.out 7 (.int .i64 D.cost.d) rfl; have rr8 := bxc RX.out 8 (.int .i64 D.bud.a) rfl; have rr9 := bxc RX.out 9 (.int .i64 D.bud.b) rfl; have rr10 := bxc RX.out 10 (.int .i64 D.bud.c) rfl; have rr11 := bxc RX.out 11 (.int .i64 D.bud.d) rfl; have rr12 := bxc RX.out 12 (.int .i64 D.floor) rfl; have rr13 := bxc RX.out 13 (.slice Q q cq) rfl
      have hz := puts_size (g := w.heap.size + 1 + 1) [(0, .slice P g cg), (1, .slice A n c), (2, .slice Z m cm), (3, .slice Y p cp), (4, .int .i64 D.cost.a), (5, .int .i64 D.cost.b), (6, .int .i64 D.cost.c), (7, .int .i64 D.cost.d), (8, .int .i64 D.bud.a), (9, .int .i64 D.bud.b), (10, .int .i64 D.bud.c), (11, .int .i64 D.bud.d), (12, .int .i64 D.floor), (13, .slice Q q cq)] w11; have hn := (fun k (hk : k ≠ w.heap.size + 1 + 1) => puts_ne (g := w.heap.size + 1 + 1) [(0, .slice P g cg), (1, .slice A n c), (2, .slice Z m cm), (3, .slice Y p cp), (4, .int .i64 D.cost.a), (5, .int .i64 D.cost.b), (6, .int .i64 D.cost.c), (7, .int .i64 D.cost.d), (8, .int .i64 D.bud.a), (9, .int .i64 D.bud.b), (10, .int .i64 D.bud.c), (11, .int .i64 D.bud.d), (12, .int .i64 D.floor), (13, .slice Q q cq)] w11 hk); have hb := puts_below (g := w.heap.size + 1 + 1) [(0, .slice P g cg), (1, .slice A n c), (2, .slice Z m cm), (3, .slice Y p cp), (4, .int .i64 D.cost.a), (5, .int .i64 D.cost.b), (6, .int .i64 D.cost.c), (7, .int .i64 D.cost.d), (8, .int .i64 D.bud.a), (9, .int .i64 D.bud.b), (10, .int .i64 D.bud.c), (11, .int .i64 D.bud.d), (12, .int .i64 D.floor), (13, .slice Q q cq)] w11 HB11.out (by omega)
      have hB := OB.out.keep (w' := puts w11 (w.heap.size + 1 + 1) [(0, .slice P g cg), (1, .slice A n c), (2, .slice Z m cm), (3, .slice Y p cp), (4, .int .i64 D.cost.a), (5, .int .i64 D.cost.b), (6, .int .i64 D.cost.c), (7, .int .i64 D.cost.d), (8, .int .i64 D.bud.a), (9, .int .i64 D.bud.b), (10, .int .i64 D.bud.c), (11, .int .i64 D.bud.d), (12, .int .i64 D.floor), (13, .slice Q q cq)]) (fun k hA _ => hn k (by rintro rfl; exact own_ne OB.out Xr11.out (by decide) (by rw [hA]; rfl)))
      have FIN := Lib.hid (show JAsk P A Z Y Q q cq g cg n c m cm p cp D t lo w (.returned (.tuple #[.agg #[.slice P g cg, .slice A n c, .slice Z m cm, .slice Y p cp, .int .i64 D.cost.a, .int .i64 D.cost.b, .int .i64 D.cost.c, .int .i64 D.cost.d, .int .i64 D.bud.a, .int .i64 D.bud.b, .int .i64 D.bud.c, .int .i64 D.bud.d, .int .i64 D.floor, .slice Q q cq], .slice B (cntV D.par D.vs t).toNat cb, .int .i64 0])) (puts w11 (w.heap.size + 1 + 1) [(0, .slice P g cg), (1, .slice A n c), (2, .slice Z m cm), (3, .slice Y p cp), (4, .int .i64 D.cost.a), (5, .int .i64 D.cost.b), (6, .int .i64 D.cost.c), (7, .int .i64 D.cost.d), (8, .int .i64 D.bud.a), (9, .int .i64 D.bud.b), (10, .int .i64 D.bud.c), (11, .int .i64 D.bud.d), (12, .int .i64 D.floor), (13, .slice Q q cq)]) from ⟨_, _, _, B, _, cb, by rw [hK.out], by rw [HA.out]; exact (D11.out.off Xr11.out (by decide) (by decide) hn hz), by rw [cells_2 hK.out]; exact (OwnI.of_own hB (Nat.le_trans (cntV_bd (tabB_ok HO.out.g HO.out.s (code0_tab hK.out))) (by decide))).fit (by omega), hb, fun r hr => .inl hr, .inl ⟨rfl, rfl, rfl, HA.out⟩⟩)
      clear hz hn hb hB RX E10 HR10 HT10 X12 Y12 Xs11 Xt11 Xr11 OB D11 HB11 ls lt lr lr11 cs0 cs1 cs2 cs3 cs4 cs5 cs6 cs7 cs8 cs9 cs10 cs11 cs12 cs13 ct0 ct1 ct2 ct3 ds0 ds1 ds2 ds3 ds4 ds5 ds6 ds7 ds8 ds9 ds10 ds11 ds12 ds13 dt0 dt1 dt2 dt3 dr0 dr1 dr2 dr3 dr4 dr5 dr6 dr7 dr8 dr9 dr10 dr11 dr12 dr13 fr0 fr1 fr2 fr3 fr4 fr5 fr6 fr7 fr8 fr9 fr10 fr11 fr12 fr13
      go_wp2
      exact bodyPost_ret (v := .tuple #[.agg #[.slice P g cg, .slice A n c, .slice Z m cm, .slice Y p cp, .int .i64 D.cost.a, .int .i64 D.cost.b, .int .i64 D.cost.c, .int .i64 D.cost.d, .int .i64 D.bud.a, .int .i64 D.bud.b, .int .i64 D.bud.c, .int .i64 D.bud.d, .int .i64 D.floor, .slice Q q cq], .slice B (cntV D.par D.vs t).toNat cb, .int .i64 0]) (by simp [results, Tryz.results91, go_sem, rr0, rr1, rr2, rr3, rr4, rr5, rr6, rr7, rr8, rr9, rr10, rr11, rr12, rr13]) rfl FIN.out
  · have e1 : (K != 0) = true := by simpa using hk
    have HK := Lib.hid hk
    clear hk
    have ls := lt_of_block Xs2.out
    have lr := lt_of_block Xr2.out
    have cs0 := bxc Xs2.out 0 _ rfl
    have cs1 := bxc Xs2.out 1 _ rfl
    have cs2 := bxc Xs2.out 2 _ rfl
    have cs3 := bxc Xs2.out 3 _ rfl
    have cs4 := bxc Xs2.out 4 _ rfl
    have cs5 := bxc Xs2.out 5 _ rfl
    have cs6 := bxc Xs2.out 6 _ rfl
    have cs7 := bxc Xs2.out 7 _ rfl
    have cs8 := bxc Xs2.out 8 _ rfl
    have cs9 := bxc Xs2.out 9 _ rfl
    have cs10 := bxc Xs2.out 10 _ rfl
    have cs11 := bxc Xs2.out 11 _ rfl
    have cs12 := bxc Xs2.out 12 _ rfl
    have cs13 := bxc Xs2.out 13 _ rfl
    have cr0 := bxc Xr2.out 0 _ rfl
    have fr0 := bxf Xr2.out 0
    have cr1 := bxc Xr2.out 1 _ rfl
    have fr1 := bxf Xr2.out 1
    have cr2 := bxc Xr2.out 2 _ rfl
    have fr2 := bxf Xr2.out 2
    have cr3 := bxc Xr2.out 3 _ rfl
    have fr3 := bxf Xr2.out 3
    have cr4 := bxc Xr2.out 4 _ rfl
    have fr4 := bxf Xr2.out 4
    have cr5 := bxc Xr2.out 5 _ rfl
    have fr5 := bxf Xr2.out 5
    have cr6 := bxc Xr2.out 6 _ rfl
    have fr6 := bxf Xr2.out 6
    have cr7 := bxc Xr2.out 7 _ rfl
    have fr7 := bxf Xr2.out 7
    have cr8 := bxc Xr2.out 8 _ rfl
    have fr8 := bxf Xr2.out 8
    have cr9 := bxc Xr2.out 9 _ rfl
    have fr9 := bxf Xr2.out 9
    have cr10 := bxc Xr2.out 10 _ rfl
    have fr10 := bxf Xr2.out 10
    have cr11 := bxc Xr2.out 11 _ rfl
    have fr11 := bxf Xr2.out 11
    have cr12 := bxc Xr2.out 12 _ rfl
    have fr12 := bxf Xr2.out 12
    have cr13 := bxc Xr2.out 13 _ rfl
    have fr13 := bxf Xr2.out 13
    have tt : (puts w2 (w.heap.size + 1 + 1) [(0, .slice P g cg), (1, .slice A n c), (2, .slice Z m cm), (3, .slice Y p cp), (4, .int .i64 D.cost.a), (5, .int .i64 D.cost.b), (6, .int .i64 D.cost.c), (7, .int .i64 D.cost.d), (8, .int .i64 D.bud.a), (9, .int .i64 D.bud.b), (10, .int .i64 D.bud.c), (11, .int .i64 D.bud.d), (12, .int .i64 D.floor), (13, .slice Q q cq)]).heap[w.heap.size + 1 + 1]? = _ := fill14 Xr2.out
    have rr : ∀ (i : Nat) (v : Value), #[.slice P g cg, .slice A n c, .slice Z m cm, .slice Y p cp, .int .i64 D.cost.a, .int .i64 D.cost.b, .int .i64 D.cost.c, .int .i64 D.cost.d, .int .i64 D.bud.a, .int .i64 D.bud.b, .int .i64 D.bud.c, .int .i64 D.bud.d, .int .i64 D.floor, .slice Q q cq][i]? = some v → (((((((((((((((w2).setCell ⟨w.heap.size + 1 + 1, 0, none⟩ (.slice P g cg)).setCell ⟨w.heap.size + 1 + 1, 1, none⟩ (.slice A n c)).setCell ⟨w.heap.size + 1 + 1, 2, none⟩ (.slice Z m cm)).setCell ⟨w.heap.size + 1 + 1, 3, none⟩ (.slice Y p cp)).setCell ⟨w.heap.size + 1 + 1, 4, none⟩ (.int .i64 D.cost.a)).setCell ⟨w.heap.size + 1 + 1, 5, none⟩ (.int .i64 D.cost.b)).setCell ⟨w.heap.size + 1 + 1, 6, none⟩ (.int .i64 D.cost.c)).setCell ⟨w.heap.size + 1 + 1, 7, none⟩ (.int .i64 D.cost.d)).setCell ⟨w.heap.size + 1 + 1, 8, none⟩ (.int .i64 D.bud.a)).setCell ⟨w.heap.size + 1 + 1, 9, none⟩ (.int .i64 D.bud.b)).setCell ⟨w.heap.size + 1 + 1, 10, none⟩ (.int .i64 D.bud.c)).setCell ⟨w.heap.size + 1 + 1, 11, none⟩ (.int .i64 D.bud.d)).setCell ⟨w.heap.size + 1 + 1, 12, none⟩ (.int .i64 D.floor)).setCell ⟨w.heap.size + 1 + 1, 13, none⟩ (.slice Q q cq)).cell? ⟨w.heap.size + 1 + 1, i, none⟩ = some v := fun i v h => bxc tt i v h
    have rr0 := rr 0 (.slice P g cg) rfl
    have rr1 := rr 1 (.slice A n c) rfl
    have rr2 := rr 2 (.slice Z m cm) rfl
    have rr3 := rr 3 (.slice Y p cp) rfl
    have rr4 := rr 4 (.int .i64 D.cost.a) rfl
    have rr5 := rr 5 (.int .i64 D.cost.b) rfl
    have rr6 := rr 6 (.int .i64 D.cost.c) rfl
    have rr7 := rr 7 (.int .i64 D.cost.d) rfl
    have rr8 := rr 8 (.int .i64 D.bud.a) rfl
    have rr9 := rr 9 (.int .i64 D.bud.b) rfl
    have rr10 := rr 10 (.int .i64 D.bud.c) rfl
    have rr11 := rr 11 (.int .i64 D.bud.d) rfl
    have rr12 := rr 12 (.int .i64 D.floor) rfl
    have rr13 := rr 13 (.slice Q q cq) rfl
    have hz := puts_size (g := w.heap.size + 1 + 1) [(0, .slice P g cg), (1, .slice A n c), (2, .slice Z m cm), (3, .slice Y p cp), (4, .int .i64 D.cost.a), (5, .int .i64 D.cost.b), (6, .int .i64 D.cost.c), (7, .int .i64 D.cost.d), (8, .int .i64 D.bud.a), (9, .int .i64 D.bud.b), (10, .int .i64 D.bud.c), (11, .int .i64 D.bud.d), (12, .int .i64 D.floor), (13, .slice Q q cq)] w2
    have hn := fun k (hk : k ≠ w.heap.size + 1 + 1) => puts_ne (g := w.heap.size + 1 + 1) [(0, .slice P g cg), (1, .slice A n c), (2, .slice Z m cm), (3, .slice Y p cp), (4, .int .i64 D.cost.a), (5, .int .i64 D.cost.b), (6, .int .i64 D.cost.c), (7, .int .i64 D.cost.d), (8, .int .i64 D.bud.a), (9, .int .i64 D.bud.b), (10, .int .i64 D.bud.c), (11, .int .i64 D.bud.d), (12, .int .i64 D.floor), (13, .slice Q q cq)] w2 hk
    have hb := puts_below (g := w.heap.size + 1 + 1) [(0, .slice P g cg), (1, .slice A n c), (2, .slice Z m cm), (3, .slice Y p cp), (4, .int .i64 D.cost.a), (5, .int .i64 D.cost.b), (6, .int .i64 D.cost.c), (7, .int .i64 D.cost.d), (8, .int .i64 D.bud.a), (9, .int .i64 D.bud.b), (10, .int .i64 D.bud.c), (11, .int .i64 D.bud.d), (12, .int .i64 D.floor), (13, .slice Q q cq)] w2 HB2.out (by omega)
    have FIN := Lib.hid (show JAsk P A Z Y Q q cq g cg n c m cm p cp D t lo w (.returned (.tuple #[.agg #[.slice P g cg, .slice A n c, .slice Z m cm, .slice Y p cp, .int .i64 D.cost.a, .int .i64 D.cost.b, .int .i64 D.cost.c, .int .i64 D.cost.d, .int .i64 D.bud.a, .int .i64 D.bud.b, .int .i64 D.bud.c, .int .i64 D.bud.d, .int .i64 D.floor, .slice Q q cq], .slice none 0 0, .int .i64 K])) (puts w2 (w.heap.size + 1 + 1) [(0, .slice P g cg), (1, .slice A n c), (2, .slice Z m cm), (3, .slice Y p cp), (4, .int .i64 D.cost.a), (5, .int .i64 D.cost.b), (6, .int .i64 D.cost.c), (7, .int .i64 D.cost.d), (8, .int .i64 D.bud.a), (9, .int .i64 D.bud.b), (10, .int .i64 D.bud.c), (11, .int .i64 D.bud.d), (12, .int .i64 D.floor), (13, .slice Q q cq)]) from ⟨Q, q, cq, none, 0, 0, by rw [hK.out], by rw [asked_1 (by rw [hK.out]; exact HK.out)]; exact HQ2.out.off Xr2.out (by decide) (by decide) hn hz, by rw [cells_1 (by rw [hK.out]; exact HK.out)]; exact ⟨Own.nil_, (fun k hk => by cases hk), by omega⟩, hb, fun r hr => .inl hr, .inl ⟨rfl, rfl, rfl, asked_1 (by rw [hK.out]; exact HK.out)⟩⟩)
    clear tt hz hn hb rr
    go_wp2
    exact bodyPost_ret (v := .tuple #[.agg #[.slice P g cg, .slice A n c, .slice Z m cm, .slice Y p cp, .int .i64 D.cost.a, .int .i64 D.cost.b, .int .i64 D.cost.c, .int .i64 D.cost.d, .int .i64 D.bud.a, .int .i64 D.bud.b, .int .i64 D.bud.c, .int .i64 D.bud.d, .int .i64 D.floor, .slice Q q cq], .slice none 0 0, .int .i64 K]) (by simp [results, Tryz.results91, go_sem, rr0, rr1, rr2, rr3, rr4, rr5, rr6, rr7, rr8, rr9, rr10, rr11, rr12, rr13]) rfl FIN.out
end Go.Proofs.YtfanpbfmnckmnaaGreat
