/- The tests of servers, of the program and of the reference; printed by gsv.py. -/
import Derived.Test.YtfanpbfmnckmnaaGreatYl
import Derived.Test.YtfanpbfmnckmnaaGreatZd
namespace Go.Proofs.YtfanpbfmnckmnaaGreat
open Go.RowKit

theorem wpAnyH_takeD {P : Program} {ops : Array Oper} {Q : Exit → Act → World → Prop} {md : Region.Mode} {S : World → Prop} {i d : Nat} {oi : Oper} {v : Value} {fuel : Nat} {listed : Array Bool} {a : Act} {w : World} (hi : ops[i]? = some oi) (hd : oi.dst = some d)
    (hs : Region.noSelect ops = true) (hf : Region.free md ops listed i = true) (hr : (Region.ready md ops listed).contains i = true)
    (hQ : ∀ c a w, Q (.panic c) (a.put (some d) v) w → Q (.panic c) a w) (hy : YieldsIf P ops S oi v a) (hS : S w)
    (h : wpAnyH P md ops Q S fuel (listed.setIfInBounds i true) (a.put (some d) v) w) : wpAnyH P md ops Q S (fuel + 1) listed a w :=
  wpAnyH_take hi hs hf hr (by rw [hd]; exact hQ) hy hS (by rw [hd]; exact h)
section
variable {D : SvD}
theorem sv_geo (h : geoB D.par = false) : false = svB D := by unfold svB; rw [h]; rfl
theorem sv_sch (h : schB D.vs = false) : false = svB D := by unfold svB; rw [h]; simp
theorem sv_sur (h : surB D.par D.vs D.rs = false) : false = svB D := by unfold svB; rw [h]; simp
theorem sv_us (h : usB D.par D.vs D.rs = false) : false = svB D := by
  unfold usB at h
  cases h1 : geoB D.par
  · exact sv_geo h1
  cases h2 : schB D.vs
  · exact sv_sch h2
  rw [h1, h2] at h
  exact sv_sur h
theorem us_of {ps : List Int} {vs : List (ByteArray × Int)} {rs : List RecD} (h : usB ps vs rs = true) : geoB ps = true ∧ schB vs = true ∧ surB ps vs rs = true := by unfold usB at h; simpa using h
theorem sv_len {p : Nat} (hl : D.plan.length = p) (h : ¬ p ≤ 20) : false = svB D := by unfold svB; rw [hl, decide_eq_false h]; simp
theorem sv_cost (h : losB D.cost = false) : false = svB D := by unfold svB; rw [h]; simp
theorem sv_bud (h : losB D.bud = false) : false = svB D := by unfold svB; rw [h]; simp
theorem sv_floor (h : inR D.floor 0 40 = false) : false = svB D := by unfold svB; rw [h]; simp
theorem sv_plan {p i : Nat} (hl : D.plan.length = p) (hi : i < p) (h : planOk D i = false) : false = svB D := by unfold svB; rw [hl, allTo_no hi h]; simp
theorem sv_ask {q i : Nat} (hl : D.asked.length = q) (hi : i < q) (h : askOk D i = false) : false = svB D := by unfold svB; rw [hl, allTo_no hi h]; simp
theorem allTo_false {p : Nat → Bool} {n : Nat} (h : allTo p n = false) : ∃ i, i < n ∧ p i = false := by
  simp only [allTo, List.all_eq_false, List.mem_range] at h
  obtain ⟨i, hi, h⟩ := h
  exact ⟨i, hi, by simpa using h⟩
theorem sv_tab {p : Nat} (hl : D.plan.length = p) (h : allTo (tabAt D.par D.vs D.plan) p = false) : false = svB D := by
  obtain ⟨i, hi, h⟩ := allTo_false h
  exact sv_plan hl hi (by unfold planOk; unfold tabAt at h; rw [h]; rfl)
theorem sv_dif (h : difB D.plan = false) : false = svB D := by
  unfold difB at h
  obtain ⟨i, hi, h⟩ := allTo_false h
  rw [difAt_take hi] at h
  exact sv_plan rfl hi (by unfold planOk; rw [h]; simp)
theorem sv_difq (h : difB D.asked = false) : false = svB D := by
  unfold difB at h
  obtain ⟨i, hi, h⟩ := allTo_false h
  rw [difAt_take hi] at h
  exact sv_ask rfl hi (by unfold askOk; rw [h]; rfl)
theorem ask_no {i : Nat} (h : codeV D (D.asked.take i) (tX D.asked i) ≠ 0) : askOk D i = false := by unfold askOk; rw [beq_eq_false_iff_ne.2 h]; simp
theorem ask_fnd {i : Nat} (h : ¬ fndT (D.asked.take i) (tX D.asked i) < 0) : askOk D i = false := by unfold askOk; rw [decide_eq_false h]; rfl
theorem ask_yes {i : Nat} (h1 : fndT (D.asked.take i) (tX D.asked i) < 0) (h2 : codeV D (D.asked.take i) (tX D.asked i) = 0) : askOk D i = true := by unfold askOk; rw [decide_eq_true h1, h2]; rfl
theorem askOk_code {i : Nat} (h : askOk D i = true) : codeV D (D.asked.take i) (tX D.asked i) = 0 := by unfold askOk at h; simp_all
theorem plan_yes {i : Nat} (h1 : tabB D.par D.vs (tX D.plan i) = true) (h2 : fndT (D.plan.take i) (tX D.plan i) < 0) : planOk D i = true := by unfold planOk; rw [h1, decide_eq_true h2]; rfl
theorem plan_tab {i : Nat} (h1 : tabB D.par D.vs (tX D.plan i) = false) : planOk D i = false := by unfold planOk; rw [h1]; rfl
theorem plan_fnd {i : Nat} (h2 : ¬ fndT (D.plan.take i) (tX D.plan i) < 0) : planOk D i = false := by unfold planOk; rw [decide_eq_false h2]; simp
theorem code0_tab {ts : List TabD} {t : TabD} (h : codeV D ts t = 0) : tabB D.par D.vs t = true := by
  cases h1 : tabB D.par D.vs t
  · rw [codeV_1 h1] at h; cases h
  · rfl
theorem code_plan {ts : List TabD} {t : TabD} (h : fndT D.plan t < 0) : codeV D ts t ≠ 0 := by
  cases h1 : tabB D.par D.vs t
  · rw [codeV_1 h1]; decide
  · rw [codeV_2 h1 h]; decide
theorem sv_yes {p q : Nat} (hp : D.plan.length = p) (hq : D.asked.length = q) (h1 : geoB D.par = true) (h2 : schB D.vs = true) (h3 : surB D.par D.vs D.rs = true) (h4 : p ≤ 20) (h5 : losB D.cost = true) (h6 : losB D.bud = true) (h7 : inR D.floor 0 40 = true) (h8 : allTo (planOk D) p = true) (h9 : allTo (askOk D) q = true) : true = svB D := by
  unfold svB; rw [hp, hq, h1, h2, h3, decide_eq_true h4, h5, h6, h7, h8, h9]; rfl
theorem plans_of {p : Nat} (hp : D.plan.length = p) (h1 : allTo (tabAt D.par D.vs D.plan) p = true) (h2 : difB D.plan = true) : allTo (planOk D) p = true := allTo_yes fun i hi => by
  unfold difB at h2
  have h3 := allTo_of h2 i (by omega)
  rw [difAt_take (by omega)] at h3
  exact plan_yes (allTo_of h1 i hi) (of_decide_eq_true h3)
theorem asks_of {q : Nat} (hq : D.asked.length = q) (h2 : difB D.asked = true) (h : ∀ j, j < q → codeV D (D.asked.take j) (tX D.asked j) = 0) : allTo (askOk D) q = true := allTo_yes fun i hi => by
  unfold difB at h2
  have h3 := allTo_of h2 i (by omega)
  rw [difAt_take (by omega)] at h3
  exact ask_yes (of_decide_eq_true h3) (h i hi)
theorem codes_step {j : Nat} (h : ∀ i, i < j → codeV D (D.asked.take i) (tX D.asked i) = 0) (h2 : codeV D (D.asked.take j) (tX D.asked j) = 0) : ∀ i, i < j + 1 → codeV D (D.asked.take i) (tX D.asked i) = 0 := fun i hi => by
  rcases Nat.lt_or_ge i j with h9 | h9
  · exact h i h9
  · obtain rfl : i = j := by omega
    exact h2
theorem codes_tab {j : Nat} (h : ∀ i, i < j → codeV D (D.asked.take i) (tX D.asked i) = 0) (i : Nat) (hi : i < j) : tabB D.par D.vs (tX (D.asked.take j) i) = true := by
  rw [tX_take hi]
  exact code0_tab (h i hi)
end

set_option maxRecDepth 100000 in
set_option maxHeartbeats 2000000 in
theorem IsServer_any (P A Z Y Q : Option Addr) (g cg n c m cm p cp q cq : Nat) (D : SvD) (w : World) (_hcp : p ≤ cp) (hcq : q ≤ cq) (hR : SurR w P A Z g n c m D) (hP : TabsR w Y p D.plan) (hQ : TabsR w Q q D.asked) :
    Calls Tryz.prog 13 #[.agg #[.slice P g cg, .slice A n c, .slice Z m cm, .slice Y p cp, .int .i64 D.cost.a, .int .i64 D.cost.b, .int .i64 D.cost.c, .int .i64 D.cost.d, .int .i64 D.bud.a, .int .i64 D.bud.b, .int .i64 D.bud.c, .int .i64 D.bud.d, .int .i64 D.floor, .slice Q q cq]] w fun e w' => e = .returned (.bool (svB D)) ∧ Below w.heap.size w w' := by
  have hpb := hP.bd
  have hqb := hQ.bd
  have hlp := Lib.hid hP.len
  have hlq := Lib.hid hQ.len
  have b0 := below_new w (.cells #[.slice P g cg, .slice A n c, .slice Z m cm, .slice Y p cp, .int .i64 D.cost.a, .int .i64 D.cost.b, .int .i64 D.cost.c, .int .i64 D.cost.d, .int .i64 D.bud.a, .int .i64 D.bud.b, .int .i64 D.bud.c, .int .i64 D.bud.d, .int .i64 D.floor, .slice Q q cq] 44)
  have Xs := Lib.hid (box_new w #[.slice P g cg, .slice A n c, .slice Z m cm, .slice Y p cp, .int .i64 D.cost.a, .int .i64 D.cost.b, .int .i64 D.cost.c, .int .i64 D.cost.d, .int .i64 D.bud.a, .int .i64 D.bud.b, .int .i64 D.bud.c, .int .i64 D.bud.d, .int .i64 D.floor, .slice Q q cq] 44)
  have HB := Lib.hid b0
  replace hR := hR.below b0
  replace hP := hP.below b0
  replace hQ := hQ.below b0
  clear b0
  go_enter Tryz.func13, Tryz.ntmps13
  have ls := lt_of_block Xs.out
  have cs0 := bxc Xs.out 0 _ rfl
  go_wp2_with fail
  clear ls cs0
  generalize w.alloc (.cells #[.slice P g cg, .slice A n c, .slice Z m cm, .slice Y p cp, .int .i64 D.cost.a, .int .i64 D.cost.b, .int .i64 D.cost.c, .int .i64 D.cost.d, .int .i64 D.bud.a, .int .i64 D.bud.b, .int .i64 D.bud.c, .int .i64 D.bud.d, .int .i64 D.floor, .slice Q q cq] 44) = w0 at *
  refine (IsGeo_any P g cg D.par _ hR.p).mono ?_
  rintro e w1 ⟨rfl, b1⟩
  replace Xs := Lib.hid (bxb Xs.out b1)
  replace hR := hR.below b1
  replace hP := hP.below b1
  replace hQ := hQ.below b1
  replace HB := Lib.hid (HB.out.trans (b1.mono HB.out.size))
  clear b1
  cases h : geoB D.par
  · have R := Lib.hid (sv_geo h)
    clear h
    go_wp2
    go_ret
    exact ⟨ret_bool R.out, HB.out⟩
  have S1 := Lib.hid h
  clear h
  have ls := lt_of_block Xs.out
  have cs1 := bxc Xs.out 1 _ rfl
  go_wp2_with fail
  clear ls cs1
  refine (IsSchema_any A n c D.vs _ hR.s.v hR.s.s hR.s.bd hR.s.cp).mono ?_
  rintro e w2 ⟨rfl, b2⟩
  replace Xs := Lib.hid (bxb Xs.out b2)
  replace hR := hR.below b2
  replace hP := hP.below b2
  replace hQ := hQ.below b2
  replace HB := Lib.hid (HB.out.trans (b2.mono HB.out.size))
  clear b2
  cases h : schB D.vs
  · have R := Lib.hid (sv_sch h)
    clear h
    go_wp2
    go_ret
    exact ⟨ret_bool R.out, HB.out⟩
  have S2 := Lib.hid h
  clear h
  have ls := lt_of_block Xs.out
  have cs0 := bxc Xs.out 0 _ rfl
  have cs1 := bxc Xs.out 1 _ rfl
  have cs2 := bxc Xs.out 2 _ rfl
  go_wp2_with fail
  clear ls cs0 cs1 cs2
  refine (isSurvey_any P A Z g cg n c m cm D.par D.vs D.rs _ hR.p hR.s hR.d).mono ?_
  rintro e w3 ⟨rfl, b3⟩
  replace Xs := Lib.hid (bxb Xs.out b3)
  replace hR := hR.below b3
  replace hP := hP.below b3
  replace hQ := hQ.below b3
  replace HB := Lib.hid (HB.out.trans (b3.mono HB.out.size))
  clear b3
  cases h : surB D.par D.vs D.rs
  · have R := Lib.hid (sv_sur h)
    clear h
    go_wp2
    go_ret
    exact ⟨ret_bool R.out, HB.out⟩
  have S3 := Lib.hid h
  clear h
  by_cases h20 : p ≤ 20
  rotate_left
  · have R := Lib.hid (sv_len hlp.out h20)
    have ls := lt_of_block Xs.out
    have cs3 := bxc Xs.out 3 _ rfl
    go_wp2
    go_ret
    exact ⟨ret_bool R.out, HB.out⟩
  have ls := lt_of_block Xs.out
  have cs0 := bxc Xs.out 0 _ rfl
  have cs1 := bxc Xs.out 1 _ rfl
  have cs3 := bxc Xs.out 3 _ rfl
  go_wp2_with fail
  clear ls cs0 cs1 cs3
  refine (isPlan_any P A Y g cg n c p cp D.par D.vs D.plan _ S1.out S2.out h20 hR.p hR.s hP).mono ?_
  rintro e w4 ⟨rfl, b4⟩
  replace Xs := Lib.hid (bxb Xs.out b4)
  replace hR := hR.below b4
  replace hP := hP.below b4
  replace hQ := hQ.below b4
  replace HB := Lib.hid (HB.out.trans (b4.mono HB.out.size))
  clear b4
  cases h : allTo (tabAt D.par D.vs D.plan) p
  · have R := Lib.hid (sv_tab hlp.out h)
    clear h
    go_wp2
    go_ret
    exact ⟨ret_bool R.out, HB.out⟩
  have S4 := Lib.hid h
  clear h
  have ls := lt_of_block Xs.out
  have cs3 := bxc Xs.out 3 _ rfl
  go_wp2_with fail
  clear ls cs3
  refine (areDifferent_any Y p cp D.plan _ hP).mono ?_
  rintro e w5 ⟨rfl, b5⟩
  replace Xs := Lib.hid (bxb Xs.out b5)
  replace hR := hR.below b5
  replace hP := hP.below b5
  replace hQ := hQ.below b5
  replace HB := Lib.hid (HB.out.trans (b5.mono HB.out.size))
  clear b5
  cases h : difB D.plan
  · have R := Lib.hid (sv_dif h)
    clear h
    go_wp2
    go_ret
    exact ⟨ret_bool R.out, HB.out⟩
  have S5 := Lib.hid h
  clear h
  have ls := lt_of_block Xs.out
  have cs4 := bxc Xs.out 4 _ rfl
  have cs5 := bxc Xs.out 5 _ rfl
  have cs6 := bxc Xs.out 6 _ rfl
  have cs7 := bxc Xs.out 7 _ rfl
  go_wp2_with fail
  clear ls cs4 cs5 cs6 cs7
  refine (IsLoss_any D.cost _).mono ?_
  rintro e w6 ⟨rfl, b6⟩
  replace Xs := Lib.hid (bxb Xs.out b6)
  replace hR := hR.below b6
  replace hP := hP.below b6
  replace hQ := hQ.below b6
  replace HB := Lib.hid (HB.out.trans (b6.mono HB.out.size))
  clear b6
  cases h : losB D.cost
  · have R := Lib.hid (sv_cost h)
    clear h
    go_wp2
    go_ret
    exact ⟨ret_bool R.out, HB.out⟩
  have S6 := Lib.hid h
  clear h
  have ls := lt_of_block Xs.out
  have cs8 := bxc Xs.out 8 _ rfl
  have cs9 := bxc Xs.out 9 _ rfl
  have cs10 := bxc Xs.out 10 _ rfl
  have cs11 := bxc Xs.out 11 _ rfl
  go_wp2_with fail
  clear ls cs8 cs9 cs10 cs11
  refine (IsLoss_any D.bud _).mono ?_
  rintro e w7 ⟨rfl, b7⟩
  replace Xs := Lib.hid (bxb Xs.out b7)
  replace hR := hR.below b7
  replace hP := hP.below b7
  replace hQ := hQ.below b7
  replace HB := Lib.hid (HB.out.trans (b7.mono HB.out.size))
  clear b7
  cases h : losB D.bud
  · have R := Lib.hid (sv_bud h)
    clear h
    go_wp2
    go_ret
    exact ⟨ret_bool R.out, HB.out⟩
  have S7 := Lib.hid h
  clear h
  by_cases hf : D.floor < 0
  · have R := Lib.hid (sv_floor (D := D) (inR_no (by omega)))
    have ls := lt_of_block Xs.out
    have cs12 := bxc Xs.out 12 _ rfl
    go_wp2
    go_ret
    exact ⟨ret_bool R.out, HB.out⟩
  have hf1 : ¬ D.floor < 0 := hf
  clear hf
  by_cases hf : 40 < D.floor
  · have R := Lib.hid (sv_floor (D := D) (inR_no (by omega)))
    have ls := lt_of_block Xs.out
    have cs12 := bxc Xs.out 12 _ rfl
    go_wp2
    go_ret
    exact ⟨ret_bool R.out, HB.out⟩
  have hf2 : ¬ 40 < D.floor := hf
  clear hf
  have S8 := Lib.hid (inR_yes (show 0 ≤ D.floor by omega) (show D.floor ≤ 40 by omega))
  have ls := lt_of_block Xs.out
  have cs12 := bxc Xs.out 12 _ rfl
  have cs13 := bxc Xs.out 13 _ rfl
  go_wp2_with fail
  clear ls cs12 cs13
  refine (areDifferent_any Q q cq D.asked _ hQ).mono ?_
  rintro e w8 ⟨rfl, b8⟩
  replace Xs := Lib.hid (bxb Xs.out b8)
  replace hR := hR.below b8
  replace hP := hP.below b8
  replace hQ := hQ.below b8
  replace HB := Lib.hid (HB.out.trans (b8.mono HB.out.size))
  clear b8
  cases h : difB D.asked
  · have R := Lib.hid (sv_difq h)
    clear h
    go_wp2
    go_ret
    exact ⟨ret_bool R.out, HB.out⟩
  have S9 := Lib.hid h
  clear h
  have HSO := Lib.hid (SurOk.mk S1.out S2.out S3.out)
  have s0 := HB.out.size
  have HR := Lib.hid hR
  have HP := Lib.hid hP
  have HQ := Lib.hid hQ
  clear hR hP hQ
  have ls := lt_of_block Xs.out
  have cs13 := bxc Xs.out 13 _ rfl
  go_wp2
  clear ls cs13
  clear hf1 hf2
  go_loopw [77] (fun i wr => ∃ j : Nat, j ≤ q ∧ i = .int .i64 j ∧ Hid (∀ i, i < j → codeV D (D.asked.take i) (tX D.asked i) = 0) ∧ Hid (Below w8.heap.size w8 wr)) (fun i _ => q - (intOf i).toNat)
  case atStart => exact ⟨0, Nat.zero_le _, rfl, Lib.hid (fun i hi => absurd hi (by omega)), Lib.hid (Below.refl _ _)⟩
  case round =>
    obtain ⟨j, hj, rfl, HC, HW⟩ := hrel
    by_cases hlt : j < q
    · obtain ⟨ad, rfl, V', m', d', U', k', e', c0, c1, c2, c3, hu⟩ := (HQ.out.below HW.out).at_ hlt
      have bj := below_new wr (.cells #[.int .i64 (tX D.asked j).lv, .slice V' m' d', .slice U' k' e', .int .i64 (tX D.asked j).sum] 56)
      have XN := Lib.hid (box_new wr #[.int .i64 (tX D.asked j).lv, .slice V' m' d', .slice U' k' e', .int .i64 (tX D.asked j).sum] 56)
      have HU := Lib.hid (hu.below bj)
      have XS := Lib.hid (bxb (bxb Xs.out HW.out) bj)
      have HW2 := Lib.hid (HW.out.trans (bj.mono HW.out.size))
      clear hu bj HW
      have ls := lt_of_block XS.out
      have qs3 := bxc XS.out 3 _ rfl
      have ln := lt_of_block XN.out
      have qn0 := bxc XN.out 0 _ rfl
      have qn1 := bxc XN.out 1 _ rfl
      have qn2 := bxc XN.out 2 _ rfl
      have qn3 := bxc XN.out 3 _ rfl
      go_wp2_with fail
      clear ls qs3 ln qn0 qn1 qn2 qn3
      clear c0 c1 c2 c3
      generalize wr.alloc (.cells #[.int .i64 (tX D.asked j).lv, .slice V' m' d', .slice U' k' e', .int .i64 (tX D.asked j).sum] 56) = w4' at *
      refine (indexOfTable_any Y V' U' p cp m' d' k' e' D.plan (tX D.asked j) _ (HP.out.below HW2.out) HU.out).mono ?_
      rintro e w5' ⟨rfl, b5⟩
      replace XS := Lib.hid (bxb XS.out b5)
      replace XN := Lib.hid (bxb XN.out b5)
      replace HU := Lib.hid (HU.out.below b5)
      replace HW2 := Lib.hid (HW2.out.trans (b5.mono HW2.out.size))
      clear b5
      have HF := Lib.hid (fun h => sv_ask hlq.out hlt (ask_no (D := D) (i := j) (code_plan h)))
      obtain ⟨f1, hf1⟩ : ∃ x, fndT D.plan (tX D.asked j) = x := ⟨_, rfl⟩
      rw [hf1] at HF ⊢
      clear hf1
      by_cases h2 : f1 < 0
      · have R := Lib.hid (HF.out h2)
        clear HF
        go_wp2
        go_ret
        exact ⟨ret_bool R.out, HB.out.trans (HW2.out.mono s0)⟩
      clear HF
      have ls := lt_of_block XS.out
      have qs0 := bxc XS.out 0 _ rfl
      have qs1 := bxc XS.out 1 _ rfl
      have qs2 := bxc XS.out 2 _ rfl
      have qs3 := bxc XS.out 3 _ rfl
      have qs4 := bxc XS.out 4 _ rfl
      have qs5 := bxc XS.out 5 _ rfl
      have qs6 := bxc XS.out 6 _ rfl
      have qs7 := bxc XS.out 7 _ rfl
      have qs8 := bxc XS.out 8 _ rfl
      have qs9 := bxc XS.out 9 _ rfl
      have qs10 := bxc XS.out 10 _ rfl
      have qs11 := bxc XS.out 11 _ rfl
      have qs12 := bxc XS.out 12 _ rfl
      have qs13 := bxc XS.out 13 _ rfl
      have ln := lt_of_block XN.out
      have qn0 := bxc XN.out 0 _ rfl
      have qn1 := bxc XN.out 1 _ rfl
      have qn2 := bxc XN.out 2 _ rfl
      have qn3 := bxc XN.out 3 _ rfl
      go_wp2_with fail
      clear ls qs0 qs1 qs2 qs3 qs4 qs5 qs6 qs7 qs8 qs9 qs10 qs11 qs12 qs13 ln qn0 qn1 qn2 qn3
      have bz := below_new w5' (.cells #[.slice P g cg, .slice A n c, .slice Z m cm, .slice Y p cp, .int .i64 D.cost.a, .int .i64 D.cost.b, .int .i64 D.cost.c, .int .i64 D.cost.d, .int .i64 D.bud.a, .int .i64 D.bud.b, .int .i64 D.bud.c, .int .i64 D.bud.d, .int .i64 D.floor, .slice (some ad) j cq] 44)
      have HW4 := Lib.hid (HW2.out.trans (bz.mono HW2.out.size))
      have HU4 := Lib.hid (HU.out.below bz)
      clear bz
      generalize w5'.alloc (.cells #[.slice P g cg, .slice A n c, .slice Z m cm, .slice Y p cp, .int .i64 D.cost.a, .int .i64 D.cost.b, .int .i64 D.cost.c, .int .i64 D.cost.d, .int .i64 D.bud.a, .int .i64 D.bud.b, .int .i64 D.bud.c, .int .i64 D.bud.d, .int .i64 D.floor, .slice (some ad) j cq] 44) = w6' at *
      refine (queryCode_any P A Z Y (some ad) g cg n c m cm p cp j cq D V' U' m' d' k' e' (tX D.asked j) (D.asked.take j) _ HSO.out (losB_ok S6.out) (losB_ok S7.out) (codes_tab HC.out) (HR.out.below HW4.out) HU4.out (HP.out.below HW4.out) ((HQ.out.below HW4.out).take hj)).mono ?_
      rintro e w7' ⟨rfl, b7⟩
      have HW7 := Lib.hid (HW4.out.trans (b7.mono HW4.out.size))
      clear b7 HW4 HU4 HU XS XN HW2 h2
      have HN := Lib.hid (fun h => sv_ask hlq.out hlt (ask_no (D := D) (i := j) h))
      have HS := Lib.hid (fun h => codes_step (D := D) (j := j) HC.out h)
      generalize codeV D (D.asked.take j) (tX D.asked j) = cd at *
      by_cases h0 : cd = 0
      · have HC2 := Lib.hid (HS.out h0)
        have hq : (cd != 0) = false := by rw [h0]; rfl
        clear HC HS HN h0
        go_wp2
        go_roundw
        case rel => exact ⟨j + 1, by omega, by go_num, HC2, HW7⟩
        case measure => simp [intOf]; omega
      · have R := Lib.hid (HN.out h0)
        have hq : (cd != 0) = true := by simpa using h0
        clear HC HS HN h0
        go_wp2
        go_ret
        exact ⟨ret_bool R.out, HB.out.trans (HW7.out.mono s0)⟩
    · obtain rfl : j = q := by omega
      have R := Lib.hid (sv_yes hlp.out hlq.out S1.out S2.out S3.out h20 S6.out S7.out S8.out (plans_of hlp.out S4.out S5.out) (asks_of hlq.out S9.out HC.out))
      go_wp2
      go_ret
      exact ⟨ret_bool R.out, HB.out.trans (HW.out.mono s0)⟩

set_option maxRecDepth 100000 in
set_option maxHeartbeats 2000000 in
theorem jGood_any (P A Z Y Q : Option Addr) (g cg n c m cm p cp q cq : Nat) (D : SvD) (w : World) (hcp : p ≤ cp) (hcq : q ≤ cq) (hR : SurR w P A Z g n c m D) (hP : TabsR w Y p D.plan) (hQ : TabsR w Q q D.asked) :
    Calls Tryz.prog 51 #[.agg #[.slice P g cg, .slice A n c, .slice Z m cm, .slice Y p cp, .int .i64 D.cost.a, .int .i64 D.cost.b, .int .i64 D.cost.c, .int .i64 D.cost.d, .int .i64 D.bud.a, .int .i64 D.bud.b, .int .i64 D.bud.c, .int .i64 D.bud.d, .int .i64 D.floor, .slice Q q cq]] w fun e w' => e = .returned (.bool (svB D)) ∧ Below w.heap.size w w' := by
  have hpb := hP.bd
  have hqb := hQ.bd
  have hlp := Lib.hid hP.len
  have hlq := Lib.hid hQ.len
  have b0 := below_new w (.cells #[.slice P g cg, .slice A n c, .slice Z m cm, .slice Y p cp, .int .i64 D.cost.a, .int .i64 D.cost.b, .int .i64 D.cost.c, .int .i64 D.cost.d, .int .i64 D.bud.a, .int .i64 D.bud.b, .int .i64 D.bud.c, .int .i64 D.bud.d, .int .i64 D.floor, .slice Q q cq] 44)
  have Xs := Lib.hid (box_new w #[.slice P g cg, .slice A n c, .slice Z m cm, .slice Y p cp, .int .i64 D.cost.a, .int .i64 D.cost.b, .int .i64 D.cost.c, .int .i64 D.cost.d, .int .i64 D.bud.a, .int .i64 D.bud.b, .int .i64 D.bud.c, .int .i64 D.bud.d, .int .i64 D.floor, .slice Q q cq] 44)
  have HB := Lib.hid b0
  replace hR := hR.below b0
  replace hP := hP.below b0
  replace hQ := hQ.below b0
  clear b0
  go_enter Tryz.func51, Tryz.ntmps51
  have ls := lt_of_block Xs.out
  have cs0 := bxc Xs.out 0 _ rfl
  have cs1 := bxc Xs.out 1 _ rfl
  have cs2 := bxc Xs.out 2 _ rfl
  go_wp2_with fail
  clear ls cs0 cs1 cs2
  generalize w.alloc (.cells #[.slice P g cg, .slice A n c, .slice Z m cm, .slice Y p cp, .int .i64 D.cost.a, .int .i64 D.cost.b, .int .i64 D.cost.c, .int .i64 D.cost.d, .int .i64 D.bud.a, .int .i64 D.bud.b, .int .i64 D.bud.c, .int .i64 D.bud.d, .int .i64 D.floor, .slice Q q cq] 44) = w0 at *
  refine (uSurvey_any P A Z g cg n c m cm D.par D.vs D.rs _ hR.p hR.s hR.d).mono ?_
  rintro e w1 ⟨rfl, b1⟩
  replace Xs := Lib.hid (bxb Xs.out b1)
  replace hR := hR.below b1
  replace hP := hP.below b1
  replace hQ := hQ.below b1
  replace HB := Lib.hid (HB.out.trans (b1.mono HB.out.size))
  clear b1
  cases h : usB D.par D.vs D.rs
  · have R := Lib.hid (sv_us h)
    clear h
    go_wp2
    go_ret
    exact ⟨ret_bool R.out, HB.out⟩
  have S0 := Lib.hid h
  clear h
  obtain ⟨hs1, hs2, hs3⟩ := us_of S0.out
  have S1 := Lib.hid hs1
  have S2 := Lib.hid hs2
  have S3 := Lib.hid hs3
  clear hs1 hs2 hs3 S0
  by_cases h20 : p ≤ 20
  rotate_left
  · have R := Lib.hid (sv_len hlp.out h20)
    have ls := lt_of_block Xs.out
    have cs3 := bxc Xs.out 3 _ rfl
    go_wp2
    go_ret
    exact ⟨ret_bool R.out, HB.out⟩
  have ls := lt_of_block Xs.out
  have cs3 := bxc Xs.out 3 _ rfl
  have cs4 := bxc Xs.out 4 _ rfl
  have cs5 := bxc Xs.out 5 _ rfl
  have cs6 := bxc Xs.out 6 _ rfl
  have cs7 := bxc Xs.out 7 _ rfl
  go_wp2_with fail
  clear ls cs3 cs4 cs5 cs6 cs7
  refine (pGood_any D.cost _).mono ?_
  rintro e w2 ⟨rfl, b2⟩
  replace Xs := Lib.hid (bxb Xs.out b2)
  replace hR := hR.below b2
  replace hP := hP.below b2
  replace hQ := hQ.below b2
  replace HB := Lib.hid (HB.out.trans (b2.mono HB.out.size))
  clear b2
  cases h : losB D.cost
  · have R := Lib.hid (sv_cost h)
    clear h
    go_wp2
    go_ret
    exact ⟨ret_bool R.out, HB.out⟩
  have S6 := Lib.hid h
  clear h
  have ls := lt_of_block Xs.out
  have cs8 := bxc Xs.out 8 _ rfl
  have cs9 := bxc Xs.out 9 _ rfl
  have cs10 := bxc Xs.out 10 _ rfl
  have cs11 := bxc Xs.out 11 _ rfl
  go_wp2_with fail
  clear ls cs8 cs9 cs10 cs11
  refine (pGood_any D.bud _).mono ?_
  rintro e w3 ⟨rfl, b3⟩
  replace Xs := Lib.hid (bxb Xs.out b3)
  replace hR := hR.below b3
  replace hP := hP.below b3
  replace hQ := hQ.below b3
  replace HB := Lib.hid (HB.out.trans (b3.mono HB.out.size))
  clear b3
  cases h : losB D.bud
  · have R := Lib.hid (sv_bud h)
    clear h
    go_wp2
    go_ret
    exact ⟨ret_bool R.out, HB.out⟩
  have S7 := Lib.hid h
  clear h
  have ls := lt_of_block Xs.out
  have cs12 := bxc Xs.out 12 _ rfl
  go_wp2_with fail
  clear ls cs12
  refine (l1In_any _ _ _ _).mono ?_
  rintro e w4 ⟨rfl, rfl⟩
  cases h : inR D.floor 0 40
  · have R := Lib.hid (sv_floor h)
    clear h
    go_wp2
    go_ret
    exact ⟨ret_bool R.out, HB.out⟩
  have S8 := Lib.hid h
  clear h
  have HSO := Lib.hid (SurOk.mk S1.out S2.out S3.out)
  have s0 := HB.out.size
  have HR := Lib.hid hR
  have HP := Lib.hid hP
  have HQ := Lib.hid hQ
  clear hR hP hQ
  have ls := lt_of_block Xs.out
  have cs3 := bxc Xs.out 3 _ rfl
  go_wp2
  clear ls cs3
  go_loopw [42] (fun i wr => ∃ j : Nat, j ≤ p ∧ i = .int .i64 j ∧ Hid (allTo (planOk D) j = true) ∧ Hid (Below w3.heap.size w3 wr)) (fun i _ => p - (intOf i).toNat)
  case atStart => exact ⟨0, Nat.zero_le _, rfl, Lib.hid (allTo_zero _), Lib.hid (Below.refl _ _)⟩
  case round =>
    obtain ⟨j, hj, rfl, HA, HW⟩ := hrel
    by_cases hlt : j < p
    · obtain ⟨ad, rfl, V', m', d', U', k', e', c0, c1, c2, c3, hu⟩ := (HP.out.below HW.out).at_ hlt
      have bj := below_new wr (.cells #[.int .i64 (tX D.plan j).lv, .slice V' m' d', .slice U' k' e', .int .i64 (tX D.plan j).sum] 56)
      have XN := Lib.hid (box_new wr #[.int .i64 (tX D.plan j).lv, .slice V' m' d', .slice U' k' e', .int .i64 (tX D.plan j).sum] 56)
      have HU := Lib.hid (hu.below bj)
      have XS := Lib.hid (bxb (bxb Xs.out HW.out) bj)
      have HW2 := Lib.hid (HW.out.trans (bj.mono HW.out.size))
      have hjc : j ≤ cp := by omega
      have hjz : (0 : Int) ≤ (j : Int) := by omega
      clear hu bj HW
      cases ht : tabB D.par D.vs (tX D.plan j)
      · have R := Lib.hid (sv_plan hlp.out hlt (plan_tab ht))
        have HT := Lib.hid ht
        clear ht HA
        have ls := lt_of_block XS.out
        have ln := lt_of_block XN.out
        have qs0 := bxc XS.out 0 _ rfl
        have qs1 := bxc XS.out 1 _ rfl
        have qs3 := bxc XS.out 3 _ rfl
        have qn0 := bxc XN.out 0 _ rfl
        have qn1 := bxc XN.out 1 _ rfl
        have qn2 := bxc XN.out 2 _ rfl
        have qn3 := bxc XN.out 3 _ rfl
        go_wp2_with fail
        clear ls ln qs0 qs1 qs3 qn0 qn1 qn2 qn3 c0 c1 c2 c3
        generalize wr.alloc (.cells #[.int .i64 (tX D.plan j).lv, .slice V' m' d', .slice U' k' e', .int .i64 (tX D.plan j).sum] 56) = w4' at *
        have s4 := HW2.out.size
        have BL := (Below.refl w4'.heap.size w4').drew
        have xs : (World.drew w4').heap[w.heap.size]? = _ := XS.out
        have xn : (World.drew w4').heap[wr.heap.size]? = _ := XN.out
        have ls9 := lt_of_block xs
        have ln9 := lt_of_block xn
        refine wp_region_held_drew (S := fun w' => w'.cell? ⟨w.heap.size, 0, none⟩ = some (.slice P g cg) ∧ w'.cell? ⟨w.heap.size, 1, none⟩ = some (.slice A n c) ∧ w'.cell? ⟨w.heap.size, 3, none⟩ = some (.slice (some ad) p cp) ∧ w'.cell? ⟨wr.heap.size, 0, none⟩ = some (.int .i64 (tX D.plan j).lv) ∧ w'.cell? ⟨wr.heap.size, 1, none⟩ = some (.slice V' m' d') ∧ w'.cell? ⟨wr.heap.size, 2, none⟩ = some (.slice U' k' e') ∧ w'.cell? ⟨wr.heap.size, 3, none⟩ = some (.int .i64 (tX D.plan j).sum)) (by kernel_rfl) (by exact ⟨bxc xs 0 _ rfl, bxc xs 1 _ rfl, bxc xs 3 _ rfl, bxc xn 0 _ rfl, bxc xn 1 _ rfl, bxc xn 2 _ rfl, bxc xn 3 _ rfl⟩) (fun hHeld => ?_)
        refine wpAnyH_takeD (i := 0) (d := 47) (v := ?_) rfl (by kernel_rfl) (by kernel_rfl) (by kernel_rfl) (by kernel_rfl) (fun _ _ _ h => h) (Or.inl ⟨by rfl, ?_⟩) (by assumption) ?_
        rotate_left
        · (intro w hSw; (try dsimp only at hSw); go_simp; try with_reducible rfl)
        simp only [Act.put, List.setIfInBounds_toArray, List.set_cons_zero, List.set_cons_succ]
        refine wpAnyH_takeD (i := 1) (d := 48) (v := ?_) rfl (by kernel_rfl) (by kernel_rfl) (by kernel_rfl) (by kernel_rfl) (fun _ _ _ h => h) (Or.inl ⟨by rfl, ?_⟩) (by assumption) ?_
        rotate_left
        · (intro w hSw; (try dsimp only at hSw); go_simp; try with_reducible rfl)
        simp only [Act.put, List.setIfInBounds_toArray, List.set_cons_zero, List.set_cons_succ]
        refine wpAnyH_takeD (i := 2) (d := 49) (v := ?_) rfl (by kernel_rfl) (by kernel_rfl) (by kernel_rfl) (by kernel_rfl) (fun _ _ _ h => h) (Or.inl ⟨by rfl, ?_⟩) (by assumption) ?_
        rotate_left
        · (intro w hSw; (try dsimp only at hSw); go_simp; try with_reducible rfl)
        simp only [Act.put, List.setIfInBounds_toArray, List.set_cons_zero, List.set_cons_succ]
        refine wpAnyH_takeD (i := 3) (d := 50) (v := ?_) rfl (by kernel_rfl) (by kernel_rfl) (by kernel_rfl) (by kernel_rfl) (fun _ _ _ h => h) (Or.inl ⟨by rfl, ?_⟩) (by assumption) ?_
        rotate_left
        · (intro w hSw; (try dsimp only at hSw); go_simp; try with_reducible rfl)
        simp only [Act.put, List.setIfInBounds_toArray, List.set_cons_zero, List.set_cons_succ]
        refine wpAnyH_takeD (i := 4) (d := 51) (v := ?_) rfl (by kernel_rfl) (by kernel_rfl) (by kernel_rfl) (by kernel_rfl) (fun _ _ _ h => h) (Or.inl ⟨by rfl, ?_⟩) (by assumption) ?_
        rotate_left
        · (intro w hSw; (try dsimp only at hSw); go_simp; try with_reducible rfl)
        simp only [Act.put, List.setIfInBounds_toArray, List.set_cons_zero, List.set_cons_succ]
        refine wpAnyH_ready (rs := [5]) (by kernel_rfl) (by simp) ?_
        refine AllReadyH.cons rfl (fun K hK => ?_) AllReadyH.nil
        go_simp
        go_at_call 73; refine (uGood_any P A V' U' g cg n c m' d' k' e' D.par (tX D.plan j) D.vs _ ((HR.out.below HW2.out).below BL).p ((HR.out.below HW2.out).below BL).s (HU.out.below BL)).mono ?_; rintro e wq ⟨rfl, bq⟩; rw [allB_eq HSO.out, HT.out]; replace xs := bxb xs bq; replace xn := bxb xn bq; replace BL := BL.trans (bq.mono BL.size); clear bq
        go_wp2_with fail
        refine hK.out _ _ ?_ (fun hHeld => ?_)
        · exact ⟨bxc xs 0 _ rfl, bxc xs 1 _ rfl, bxc xs 3 _ rfl, bxc xn 0 _ rfl, bxc xn 1 _ rfl, bxc xn 2 _ rfl, bxc xn 3 _ rfl⟩
        clear hK K
        try simp only [Act.put, List.setIfInBounds_toArray, List.set_cons_zero, List.set_cons_succ]
        refine wpAnyH_takeD (i := 6) (d := 53) (v := ?_) rfl (by kernel_rfl) (by kernel_rfl) (by kernel_rfl) (by kernel_rfl) (fun _ _ _ h => h) (Or.inl ⟨by rfl, ?_⟩) (by assumption) ?_
        rotate_left
        · (intro w hSw; (try dsimp only at hSw); go_simp; try with_reducible rfl)
        simp only [Act.put, List.setIfInBounds_toArray, List.set_cons_zero, List.set_cons_succ]
        refine wpAnyH_takeD (i := 7) (d := 54) (v := ?_) rfl (by kernel_rfl) (by kernel_rfl) (by kernel_rfl) (by kernel_rfl) (fun _ _ _ h => h) (Or.inl ⟨by rfl, ?_⟩) (by assumption) ?_
        rotate_left
        · (intro w hSw; (try dsimp only at hSw); go_simp; try with_reducible rfl)
        simp only [Act.put, List.setIfInBounds_toArray, List.set_cons_zero, List.set_cons_succ]
        refine wpAnyH_takeD (i := 8) (d := 55) (v := undef) rfl (by kernel_rfl) (by kernel_rfl) (by kernel_rfl) (by kernel_rfl) (fun _ _ _ h => h) (Or.inr ⟨by rfl, rfl⟩) (by assumption) ?_
        simp only [Act.put, List.setIfInBounds_toArray, List.set_cons_zero, List.set_cons_succ]
        refine wpAnyH_takeD (i := 9) (d := 56) (v := undef) rfl (by kernel_rfl) (by kernel_rfl) (by kernel_rfl) (by kernel_rfl) (fun _ _ _ h => h) (Or.inr ⟨by rfl, rfl⟩) (by assumption) ?_
        simp only [Act.put, List.setIfInBounds_toArray, List.set_cons_zero, List.set_cons_succ]
        refine wpAnyH_takeD (i := 10) (d := 57) (v := undef) rfl (by kernel_rfl) (by kernel_rfl) (by kernel_rfl) (by kernel_rfl) (fun _ _ _ h => h) (Or.inr ⟨by rfl, rfl⟩) (by assumption) ?_
        simp only [Act.put, List.setIfInBounds_toArray, List.set_cons_zero, List.set_cons_succ]
        refine wpAnyH_takeD (i := 11) (d := 58) (v := undef) rfl (by kernel_rfl) (by kernel_rfl) (by kernel_rfl) (by kernel_rfl) (fun _ _ _ h => h) (Or.inr ⟨by rfl, rfl⟩) (by assumption) ?_
        simp only [Act.put, List.setIfInBounds_toArray, List.set_cons_zero, List.set_cons_succ]
        refine wpAnyH_takeD (i := 12) (d := 59) (v := undef) rfl (by kernel_rfl) (by kernel_rfl) (by kernel_rfl) (by kernel_rfl) (fun _ _ _ h => h) (Or.inr ⟨by rfl, rfl⟩) (by assumption) ?_
        simp only [Act.put, List.setIfInBounds_toArray, List.set_cons_zero, List.set_cons_succ]
        refine wpAnyH_takeD (i := 13) (d := 60) (v := undef) rfl (by kernel_rfl) (by kernel_rfl) (by kernel_rfl) (by kernel_rfl) (fun _ _ _ h => h) (Or.inr ⟨by rfl, rfl⟩) (by assumption) ?_
        simp only [Act.put, List.setIfInBounds_toArray, List.set_cons_zero, List.set_cons_succ]
        refine wpAnyH_takeD (i := 14) (d := 61) (v := undef) rfl (by kernel_rfl) (by kernel_rfl) (by kernel_rfl) (by kernel_rfl) (fun _ _ _ h => h) (Or.inr ⟨by rfl, rfl⟩) (by assumption) ?_
        simp only [Act.put, List.setIfInBounds_toArray, List.set_cons_zero, List.set_cons_succ]
        refine wpAnyH_takeD (i := 15) (d := 62) (v := ?_) rfl (by kernel_rfl) (by kernel_rfl) (by kernel_rfl) (by kernel_rfl) (fun _ _ _ h => h) (Or.inl ⟨by rfl, ?_⟩) (by assumption) ?_
        rotate_left
        · (intro w hSw; (try dsimp only at hSw); go_simp; try with_reducible rfl)
        simp only [Act.put, List.setIfInBounds_toArray, List.set_cons_zero, List.set_cons_succ]
        refine wpAnyH_done (by kernel_rfl) ?_ _
        have HW7 := Lib.hid (HW2.out.trans (BL.mono s4))
        clear xs xn BL XS XN HW2 HU s4 ls9 ln9 hHeld
        all_goals (go_wp2; go_ret; exact ⟨ret_bool R.out, HB.out.trans (HW7.out.mono s0)⟩)
      have HT := Lib.hid ht
      clear ht
      obtain ⟨f1, hf1⟩ : ∃ x, fndT (D.plan.take j) (tX D.plan j) = x := ⟨_, rfl⟩
      have HF := Lib.hid hf1
      clear hf1
      by_cases h2 : f1 < 0
      · have HA2 := Lib.hid (allTo_succ (p := planOk D) HA.out (plan_yes HT.out (by rw [HF.out]; exact h2)))
        clear HA
        have ls := lt_of_block XS.out
        have ln := lt_of_block XN.out
        have qs0 := bxc XS.out 0 _ rfl
        have qs1 := bxc XS.out 1 _ rfl
        have qs3 := bxc XS.out 3 _ rfl
        have qn0 := bxc XN.out 0 _ rfl
        have qn1 := bxc XN.out 1 _ rfl
        have qn2 := bxc XN.out 2 _ rfl
        have qn3 := bxc XN.out 3 _ rfl
        go_wp2_with fail
        clear ls ln qs0 qs1 qs3 qn0 qn1 qn2 qn3 c0 c1 c2 c3
        generalize wr.alloc (.cells #[.int .i64 (tX D.plan j).lv, .slice V' m' d', .slice U' k' e', .int .i64 (tX D.plan j).sum] 56) = w4' at *
        have s4 := HW2.out.size
        have BL := (Below.refl w4'.heap.size w4').drew
        have xs : (World.drew w4').heap[w.heap.size]? = _ := XS.out
        have xn : (World.drew w4').heap[wr.heap.size]? = _ := XN.out
        have ls9 := lt_of_block xs
        have ln9 := lt_of_block xn
        first | (go_region_held3 (fun w' => w'.cell? ⟨w.heap.size, 0, none⟩ = some (.slice P g cg) ∧ w'.cell? ⟨w.heap.size, 1, none⟩ = some (.slice A n c) ∧ w'.cell? ⟨w.heap.size, 3, none⟩ = some (.slice (some ad) p cp) ∧ w'.cell? ⟨wr.heap.size, 0, none⟩ = some (.int .i64 (tX D.plan j).lv) ∧ w'.cell? ⟨wr.heap.size, 1, none⟩ = some (.slice V' m' d') ∧ w'.cell? ⟨wr.heap.size, 2, none⟩ = some (.slice U' k' e') ∧ w'.cell? ⟨wr.heap.size, 3, none⟩ = some (.int .i64 (tX D.plan j).sum)) (exact ⟨bxc xs 0 _ rfl, bxc xs 1 _ rfl, bxc xs 3 _ rfl, bxc xn 0 _ rfl, bxc xn 1 _ rfl, bxc xn 2 _ rfl, bxc xn 3 _ rfl⟩) (first
            | (go_at_call 73; refine (uGood_any P A V' U' g cg n c m' d' k' e' D.par (tX D.plan j) D.vs _ ((HR.out.below HW2.out).below BL).p ((HR.out.below HW2.out).below BL).s (HU.out.below BL)).mono ?_; rintro e wq ⟨rfl, bq⟩; rw [allB_eq HSO.out, HT.out]; replace xs := bxb xs bq; replace xn := bxb xn bq; replace BL := BL.trans (bq.mono BL.size); clear bq)
            | (go_at_call 109; refine (jFind_any (some ad) V' U' j cp m' d' k' e' (D.plan.take j) (tX D.plan j) _ (((HP.out.below HW2.out).below BL).take hj) (HU.out.below BL)).mono ?_; rintro e wq ⟨rfl, bq⟩; rw [HF.out]; replace xs := bxb xs bq; replace xn := bxb xn bq; replace BL := BL.trans (bq.mono BL.size); clear bq)
            | fail)) | fail
        all_goals (have HW7 := Lib.hid (HW2.out.trans (BL.mono s4)); clear xs xn BL XS XN HW2 HU s4 ls9 ln9)
        go_wp2
        go_roundw
        case rel => exact ⟨j + 1, by omega, by go_num, HA2, HW7⟩
        case measure => simp [intOf]; omega
      · have R := Lib.hid (sv_plan hlp.out hlt (plan_fnd (D := D) (i := j) (by rw [HF.out]; exact h2)))
        clear HA
        have ls := lt_of_block XS.out
        have ln := lt_of_block XN.out
        have qs0 := bxc XS.out 0 _ rfl
        have qs1 := bxc XS.out 1 _ rfl
        have qs3 := bxc XS.out 3 _ rfl
        have qn0 := bxc XN.out 0 _ rfl
        have qn1 := bxc XN.out 1 _ rfl
        have qn2 := bxc XN.out 2 _ rfl
        have qn3 := bxc XN.out 3 _ rfl
        go_wp2_with fail
        clear ls ln qs0 qs1 qs3 qn0 qn1 qn2 qn3 c0 c1 c2 c3
        generalize wr.alloc (.cells #[.int .i64 (tX D.plan j).lv, .slice V' m' d', .slice U' k' e', .int .i64 (tX D.plan j).sum] 56) = w4' at *
        have s4 := HW2.out.size
        have BL := (Below.refl w4'.heap.size w4').drew
        have xs : (World.drew w4').heap[w.heap.size]? = _ := XS.out
        have xn : (World.drew w4').heap[wr.heap.size]? = _ := XN.out
        have ls9 := lt_of_block xs
        have ln9 := lt_of_block xn
        first | (go_region_held3 (fun w' => w'.cell? ⟨w.heap.size, 0, none⟩ = some (.slice P g cg) ∧ w'.cell? ⟨w.heap.size, 1, none⟩ = some (.slice A n c) ∧ w'.cell? ⟨w.heap.size, 3, none⟩ = some (.slice (some ad) p cp) ∧ w'.cell? ⟨wr.heap.size, 0, none⟩ = some (.int .i64 (tX D.plan j).lv) ∧ w'.cell? ⟨wr.heap.size, 1, none⟩ = some (.slice V' m' d') ∧ w'.cell? ⟨wr.heap.size, 2, none⟩ = some (.slice U' k' e') ∧ w'.cell? ⟨wr.heap.size, 3, none⟩ = some (.int .i64 (tX D.plan j).sum)) (exact ⟨bxc xs 0 _ rfl, bxc xs 1 _ rfl, bxc xs 3 _ rfl, bxc xn 0 _ rfl, bxc xn 1 _ rfl, bxc xn 2 _ rfl, bxc xn 3 _ rfl⟩) (first
            | (go_at_call 73; refine (uGood_any P A V' U' g cg n c m' d' k' e' D.par (tX D.plan j) D.vs _ ((HR.out.below HW2.out).below BL).p ((HR.out.below HW2.out).below BL).s (HU.out.below BL)).mono ?_; rintro e wq ⟨rfl, bq⟩; rw [allB_eq HSO.out, HT.out]; replace xs := bxb xs bq; replace xn := bxb xn bq; replace BL := BL.trans (bq.mono BL.size); clear bq)
            | (go_at_call 109; refine (jFind_any (some ad) V' U' j cp m' d' k' e' (D.plan.take j) (tX D.plan j) _ (((HP.out.below HW2.out).below BL).take hj) (HU.out.below BL)).mono ?_; rintro e wq ⟨rfl, bq⟩; rw [HF.out]; replace xs := bxb xs bq; replace xn := bxb xn bq; replace BL := BL.trans (bq.mono BL.size); clear bq)
            | fail)) | fail
        all_goals (have HW7 := Lib.hid (HW2.out.trans (BL.mono s4)); clear xs xn BL XS XN HW2 HU s4 ls9 ln9)
        all_goals (go_wp2; go_ret; exact ⟨ret_bool R.out, HB.out.trans (HW7.out.mono s0)⟩)
    · obtain rfl : p = j := by omega
      obtain ⟨w9, rfl⟩ : ∃ x : World, x = wr := ⟨_, rfl⟩
      have S9 := HA
      have HB1 := Lib.hid (HB.out.trans (HW.out.mono s0))
      have s01 := HB1.out.size
      have HR1 := Lib.hid (HR.out.below HW.out)
      have HP1 := Lib.hid (HP.out.below HW.out)
      have HQ1 := Lib.hid (HQ.out.below HW.out)
      have Xs1 := Lib.hid (bxb Xs.out HW.out)
      clear HA HR HP HQ HW Xs HB s0
      have Xs := Xs1
      clear Xs1
      have ls := lt_of_block Xs.out
      have cs13 := bxc Xs.out 13 _ rfl
      go_wp2
      clear ls cs13
      go_loopw [67] (fun i wr => ∃ j : Nat, j ≤ q ∧ i = .int .i64 j ∧ Hid (allTo (askOk D) j = true) ∧ Hid (Below w9.heap.size w9 wr)) (fun i _ => q - (intOf i).toNat)
      case atStart => exact ⟨0, Nat.zero_le _, rfl, Lib.hid (allTo_zero _), Lib.hid (Below.refl _ _)⟩
      case round =>
        obtain ⟨j, hj, rfl, HA, HW⟩ := hrel
        by_cases hlt : j < q
        · obtain ⟨ad, rfl, V', m', d', U', k', e', c0, c1, c2, c3, hu⟩ := (HQ1.out.below HW.out).at_ hlt
          have bj := below_new wr (.cells #[.int .i64 (tX D.asked j).lv, .slice V' m' d', .slice U' k' e', .int .i64 (tX D.asked j).sum] 56)
          have XN := Lib.hid (box_new wr #[.int .i64 (tX D.asked j).lv, .slice V' m' d', .slice U' k' e', .int .i64 (tX D.asked j).sum] 56)
          have HU := Lib.hid (hu.below bj)
          have XS := Lib.hid (bxb (bxb Xs.out HW.out) bj)
          have HW2 := Lib.hid (HW.out.trans (bj.mono HW.out.size))
          have hjc : j ≤ cq := by omega
          have hjz : (0 : Int) ≤ (j : Int) := by omega
          clear hu bj HW
          have HTB := Lib.hid (codes_tab (D := D) (j := j) (fun i hi => askOk_code (allTo_of HA.out i hi)))
          obtain ⟨f1, hf1⟩ : ∃ x, fndT (D.asked.take j) (tX D.asked j) = x := ⟨_, rfl⟩
          have HF := Lib.hid hf1
          clear hf1
          by_cases h2 : f1 < 0
          rotate_left
          · have R := Lib.hid (sv_ask hlq.out hlt (ask_fnd (D := D) (i := j) (by rw [HF.out]; exact h2)))
            clear HA HTB
            have hd : decide (0 ≤ f1) = true := decide_eq_true (by omega)
            have ls := lt_of_block XS.out
            have ln := lt_of_block XN.out
            have qs13 := bxc XS.out 13 _ rfl
            have qn0 := bxc XN.out 0 _ rfl
            have qn1 := bxc XN.out 1 _ rfl
            have qn2 := bxc XN.out 2 _ rfl
            have qn3 := bxc XN.out 3 _ rfl
            go_wp2_with fail
            clear ls ln qs13 qn0 qn1 qn2 qn3 c0 c1 c2 c3
            generalize wr.alloc (.cells #[.int .i64 (tX D.asked j).lv, .slice V' m' d', .slice U' k' e', .int .i64 (tX D.asked j).sum] 56) = w4' at *
            have s4 := HW2.out.size
            have BL := (Below.refl w4'.heap.size w4').drew
            have xs : (World.drew w4').heap[w.heap.size]? = _ := XS.out
            have xn : (World.drew w4').heap[wr.heap.size]? = _ := XN.out
            have ls9 := lt_of_block xs
            have ln9 := lt_of_block xn
            refine wp_region_held_drew (S := fun w' => w'.cell? ⟨w.heap.size, 13, none⟩ = some (.slice (some ad) q cq) ∧ w'.cell? ⟨wr.heap.size, 0, none⟩ = some (.int .i64 (tX D.asked j).lv) ∧ w'.cell? ⟨wr.heap.size, 1, none⟩ = some (.slice V' m' d') ∧ w'.cell? ⟨wr.heap.size, 2, none⟩ = some (.slice U' k' e') ∧ w'.cell? ⟨wr.heap.size, 3, none⟩ = some (.int .i64 (tX D.asked j).sum)) (by kernel_rfl) (by exact ⟨bxc xs 13 _ rfl, bxc xn 0 _ rfl, bxc xn 1 _ rfl, bxc xn 2 _ rfl, bxc xn 3 _ rfl⟩) (fun hHeld => ?_)
            refine wpAnyH_takeD (i := 0) (d := 72) (v := ?_) rfl (by kernel_rfl) (by kernel_rfl) (by kernel_rfl) (by kernel_rfl) (fun _ _ _ h => h) (Or.inl ⟨by rfl, ?_⟩) (by assumption) ?_
            rotate_left
            · (intro w hSw; (try dsimp only at hSw); go_simp; try with_reducible rfl)
            simp only [Act.put, List.setIfInBounds_toArray, List.set_cons_zero, List.set_cons_succ]
            refine wpAnyH_takeD (i := 1) (d := 73) (v := ?_) rfl (by kernel_rfl) (by kernel_rfl) (by kernel_rfl) (by kernel_rfl) (fun _ _ _ h => h) (Or.inl ⟨by rfl, ?_⟩) (by assumption) ?_
            rotate_left
            · (intro w hSw; (try dsimp only at hSw); go_simp; try with_reducible rfl)
            simp only [Act.put, List.setIfInBounds_toArray, List.set_cons_zero, List.set_cons_succ]
            refine wpAnyH_takeD (i := 2) (d := 74) (v := ?_) rfl (by kernel_rfl) (by kernel_rfl) (by kernel_rfl) (by kernel_rfl) (fun _ _ _ h => h) (Or.inl ⟨by rfl, ?_⟩) (by assumption) ?_
            rotate_left
            · (intro w hSw; (try dsimp only at hSw); go_simp; try with_reducible rfl)
            simp only [Act.put, List.setIfInBounds_toArray, List.set_cons_zero, List.set_cons_succ]
            refine wpAnyH_takeD (i := 3) (d := 75) (v := ?_) rfl (by kernel_rfl) (by kernel_rfl) (by kernel_rfl) (by kernel_rfl) (fun _ _ _ h => h) (Or.inl ⟨by rfl, ?_⟩) (by assumption) ?_
            rotate_left
            · (intro w hSw; (try dsimp only at hSw); go_simp; try with_reducible rfl)
            simp only [Act.put, List.setIfInBounds_toArray, List.set_cons_zero, List.set_cons_succ]
            refine wpAnyH_takeD (i := 4) (d := 76) (v := ?_) rfl (by kernel_rfl) (by kernel_rfl) (by kernel_rfl) (by kernel_rfl) (fun _ _ _ h => h) (Or.inl ⟨by rfl, ?_⟩) (by assumption) ?_
            rotate_left
            · (intro w hSw; (try dsimp only at hSw); go_simp; try with_reducible rfl)
            simp only [Act.put, List.setIfInBounds_toArray, List.set_cons_zero, List.set_cons_succ]
            refine wpAnyH_ready (rs := [5]) (by kernel_rfl) (by simp) ?_
            refine AllReadyH.cons rfl (fun K hK => ?_) AllReadyH.nil
            go_simp
            go_at_call 109; refine (jFind_any (some ad) V' U' j cq m' d' k' e' (D.asked.take j) (tX D.asked j) _ (((HQ1.out.below HW2.out).below BL).take hj) (HU.out.below BL)).mono ?_; rintro e wq ⟨rfl, bq⟩; rw [HF.out]; replace xs := bxb xs bq; replace xn := bxb xn bq; replace BL := BL.trans (bq.mono BL.size); clear bq
            go_wp2_with fail
            refine hK.out _ _ ?_ (fun hHeld => ?_)
            · exact ⟨bxc xs 13 _ rfl, bxc xn 0 _ rfl, bxc xn 1 _ rfl, bxc xn 2 _ rfl, bxc xn 3 _ rfl⟩
            clear hK K
            try simp only [Act.put, List.setIfInBounds_toArray, List.set_cons_zero, List.set_cons_succ]
            refine wpAnyH_takeD (i := 6) (d := 78) (v := ?_) rfl (by kernel_rfl) (by kernel_rfl) (by kernel_rfl) (by kernel_rfl) (fun _ _ _ h => h) (Or.inl ⟨by rfl, ?_⟩) (by assumption) ?_
            rotate_left
            · (intro w hSw; (try dsimp only at hSw); go_simp; try with_reducible rfl)
            simp only [Act.put, List.setIfInBounds_toArray, List.set_cons_zero, List.set_cons_succ]
            refine wpAnyH_takeD (i := 7) (d := 79) (v := ?_) rfl (by kernel_rfl) (by kernel_rfl) (by kernel_rfl) (by kernel_rfl) (fun _ _ _ h => h) (Or.inl ⟨by rfl, ?_⟩) (by assumption) ?_
            rotate_left
            · (intro w hSw; (try dsimp only at hSw); go_simp; try with_reducible rfl)
            simp only [Act.put, List.setIfInBounds_toArray, List.set_cons_zero, List.set_cons_succ]
            refine wpAnyH_takeD (i := 8) (d := 80) (v := undef) rfl (by kernel_rfl) (by kernel_rfl) (by kernel_rfl) (by kernel_rfl) (fun _ _ _ h => h) (Or.inr ⟨by rfl, rfl⟩) (by assumption) ?_
            simp only [Act.put, List.setIfInBounds_toArray, List.set_cons_zero, List.set_cons_succ]
            refine wpAnyH_takeD (i := 9) (d := 81) (v := undef) rfl (by kernel_rfl) (by kernel_rfl) (by kernel_rfl) (by kernel_rfl) (fun _ _ _ h => h) (Or.inr ⟨by rfl, rfl⟩) (by assumption) ?_
            simp only [Act.put, List.setIfInBounds_toArray, List.set_cons_zero, List.set_cons_succ]
            refine wpAnyH_takeD (i := 10) (d := 82) (v := undef) rfl (by kernel_rfl) (by kernel_rfl) (by kernel_rfl) (by kernel_rfl) (fun _ _ _ h => h) (Or.inr ⟨by rfl, rfl⟩) (by assumption) ?_
            simp only [Act.put, List.setIfInBounds_toArray, List.set_cons_zero, List.set_cons_succ]
            refine wpAnyH_takeD (i := 11) (d := 83) (v := undef) rfl (by kernel_rfl) (by kernel_rfl) (by kernel_rfl) (by kernel_rfl) (fun _ _ _ h => h) (Or.inr ⟨by rfl, rfl⟩) (by assumption) ?_
            simp only [Act.put, List.setIfInBounds_toArray, List.set_cons_zero, List.set_cons_succ]
            refine wpAnyH_takeD (i := 12) (d := 84) (v := undef) rfl (by kernel_rfl) (by kernel_rfl) (by kernel_rfl) (by kernel_rfl) (fun _ _ _ h => h) (Or.inr ⟨by rfl, rfl⟩) (by assumption) ?_
            simp only [Act.put, List.setIfInBounds_toArray, List.set_cons_zero, List.set_cons_succ]
            refine wpAnyH_takeD (i := 13) (d := 85) (v := undef) rfl (by kernel_rfl) (by kernel_rfl) (by kernel_rfl) (by kernel_rfl) (fun _ _ _ h => h) (Or.inr ⟨by rfl, rfl⟩) (by assumption) ?_
            simp only [Act.put, List.setIfInBounds_toArray, List.set_cons_zero, List.set_cons_succ]
            refine wpAnyH_takeD (i := 14) (d := 86) (v := undef) rfl (by kernel_rfl) (by kernel_rfl) (by kernel_rfl) (by kernel_rfl) (fun _ _ _ h => h) (Or.inr ⟨by rfl, rfl⟩) (by assumption) ?_
            simp only [Act.put, List.setIfInBounds_toArray, List.set_cons_zero, List.set_cons_succ]
            refine wpAnyH_takeD (i := 15) (d := 87) (v := undef) rfl (by kernel_rfl) (by kernel_rfl) (by kernel_rfl) (by kernel_rfl) (fun _ _ _ h => h) (Or.inr ⟨by rfl, rfl⟩) (by assumption) ?_
            simp only [Act.put, List.setIfInBounds_toArray, List.set_cons_zero, List.set_cons_succ]
            refine wpAnyH_takeD (i := 16) (d := 88) (v := ?_) rfl (by kernel_rfl) (by kernel_rfl) (by kernel_rfl) (by kernel_rfl) (fun _ _ _ h => h) (Or.inl ⟨by rfl, ?_⟩) (by assumption) ?_
            rotate_left
            · (intro w hSw; (try dsimp only at hSw); go_simp; try with_reducible rfl)
            simp only [Act.put, List.setIfInBounds_toArray, List.set_cons_zero, List.set_cons_succ]
            refine wpAnyH_done (by kernel_rfl) ?_ _
            have HW7 := Lib.hid (HW2.out.trans (BL.mono s4))
            clear xs xn BL XS XN HW2 HU s4 ls9 ln9 hHeld
            all_goals (go_wp2; go_ret; exact ⟨ret_bool R.out, HB1.out.trans (HW7.out.mono s01)⟩)
          have hd : decide (0 ≤ f1) = false := decide_eq_false (by omega)
          obtain ⟨cd, hcd⟩ : ∃ x, codeV D (D.asked.take j) (tX D.asked j) = x := ⟨_, rfl⟩
          have HCD := Lib.hid hcd
          clear hcd
          by_cases h0 : cd = 0
          · have HA2 := Lib.hid (allTo_succ (p := askOk D) HA.out (ask_yes (by rw [HF.out]; exact h2) (by rw [HCD.out]; exact h0)))
            have hq : (cd != 0) = false := by rw [h0]; rfl
            clear HA h0
            have ls := lt_of_block XS.out
            have ln := lt_of_block XN.out
            have qs0 := bxc XS.out 0 _ rfl
            have qs1 := bxc XS.out 1 _ rfl
            have qs2 := bxc XS.out 2 _ rfl
            have qs3 := bxc XS.out 3 _ rfl
            have qs4 := bxc XS.out 4 _ rfl
            have qs5 := bxc XS.out 5 _ rfl
            have qs6 := bxc XS.out 6 _ rfl
            have qs7 := bxc XS.out 7 _ rfl
            have qs8 := bxc XS.out 8 _ rfl
            have qs9 := bxc XS.out 9 _ rfl
            have qs10 := bxc XS.out 10 _ rfl
            have qs11 := bxc XS.out 11 _ rfl
            have qs12 := bxc XS.out 12 _ rfl
            have qs13 := bxc XS.out 13 _ rfl
            have qn0 := bxc XN.out 0 _ rfl
            have qn1 := bxc XN.out 1 _ rfl
            have qn2 := bxc XN.out 2 _ rfl
            have qn3 := bxc XN.out 3 _ rfl
            go_wp2_with fail
            clear ls ln qs0 qs1 qs2 qs3 qs4 qs5 qs6 qs7 qs8 qs9 qs10 qs11 qs12 qs13 qn0 qn1 qn2 qn3 c0 c1 c2 c3
            generalize wr.alloc (.cells #[.int .i64 (tX D.asked j).lv, .slice V' m' d', .slice U' k' e', .int .i64 (tX D.asked j).sum] 56) = w4' at *
            have s4 := HW2.out.size
            have BL := (Below.refl w4'.heap.size w4').drew
            have xs : (World.drew w4').heap[w.heap.size]? = _ := XS.out
            have xn : (World.drew w4').heap[wr.heap.size]? = _ := XN.out
            have ls9 := lt_of_block xs
            have ln9 := lt_of_block xn
            first | (go_region_held3 (fun w' => w'.cell? ⟨w.heap.size, 0, none⟩ = some (.slice P g cg) ∧ w'.cell? ⟨w.heap.size, 1, none⟩ = some (.slice A n c) ∧ w'.cell? ⟨w.heap.size, 2, none⟩ = some (.slice Z m cm) ∧ w'.cell? ⟨w.heap.size, 3, none⟩ = some (.slice Y p cp) ∧ w'.cell? ⟨w.heap.size, 4, none⟩ = some (.int .i64 D.cost.a) ∧ w'.cell? ⟨w.heap.size, 5, none⟩ = some (.int .i64 D.cost.b) ∧ w'.cell? ⟨w.heap.size, 6, none⟩ = some (.int .i64 D.cost.c) ∧ w'.cell? ⟨w.heap.size, 7, none⟩ = some (.int .i64 D.cost.d) ∧ w'.cell? ⟨w.heap.size, 8, none⟩ = some (.int .i64 D.bud.a) ∧ w'.cell? ⟨w.heap.size, 9, none⟩ = some (.int .i64 D.bud.b) ∧ w'.cell? ⟨w.heap.size, 10, none⟩ = some (.int .i64 D.bud.c) ∧ w'.cell? ⟨w.heap.size, 11, none⟩ = some (.int .i64 D.bud.d) ∧ w'.cell? ⟨w.heap.size, 12, none⟩ = some (.int .i64 D.floor) ∧ w'.cell? ⟨w.heap.size, 13, none⟩ = some (.slice (some ad) q cq) ∧ w'.cell? ⟨wr.heap.size, 0, none⟩ = some (.int .i64 (tX D.asked j).lv) ∧ w'.cell? ⟨wr.heap.size, 1, none⟩ = some (.slice V' m' d') ∧ w'.cell? ⟨wr.heap.size, 2, none⟩ = some (.slice U' k' e') ∧ w'.cell? ⟨wr.heap.size, 3, none⟩ = some (.int .i64 (tX D.asked j).sum)) (exact ⟨bxc xs 0 _ rfl, bxc xs 1 _ rfl, bxc xs 2 _ rfl, bxc xs 3 _ rfl, bxc xs 4 _ rfl, bxc xs 5 _ rfl, bxc xs 6 _ rfl, bxc xs 7 _ rfl, bxc xs 8 _ rfl, bxc xs 9 _ rfl, bxc xs 10 _ rfl, bxc xs 11 _ rfl, bxc xs 12 _ rfl, bxc xs 13 _ rfl, bxc xn 0 _ rfl, bxc xn 1 _ rfl, bxc xn 2 _ rfl, bxc xn 3 _ rfl⟩) (first
                | (go_at_call 109; refine (jFind_any (some ad) V' U' j cq m' d' k' e' (D.asked.take j) (tX D.asked j) _ (((HQ1.out.below HW2.out).below BL).take hj) (HU.out.below BL)).mono ?_; rintro e wq ⟨rfl, bq⟩; rw [HF.out]; replace xs := bxb xs bq; replace xn := bxb xn bq; replace BL := BL.trans (bq.mono BL.size); clear bq)
                | (go_at_call 78; refine (jCode_any P A Z Y (some ad) g cg n c m cm p cp q cq D V' U' (some ad) m' d' k' e' j cq (tX D.asked j) (D.asked.take j) _ HSO.out (losB_ok S6.out) (losB_ok S7.out) HTB.out ((HR1.out.below HW2.out).below BL) (HU.out.below BL) ((HP1.out.below HW2.out).below BL) (((HQ1.out.below HW2.out).below BL).take hj)).mono ?_; rintro e wq ⟨rfl, bq⟩; rw [HCD.out]; replace xs := bxb xs bq; replace xn := bxb xn bq; replace BL := BL.trans (bq.mono BL.size); clear bq)
                | fail)) | fail
            all_goals (have HW7 := Lib.hid (HW2.out.trans (BL.mono s4)); clear xs xn BL XS XN HW2 HU s4 ls9 ln9)
            go_wp2
            go_roundw
            case rel => exact ⟨j + 1, by omega, by go_num, HA2, HW7⟩
            case measure => simp [intOf]; omega
          · have R := Lib.hid (sv_ask hlq.out hlt (ask_no (D := D) (i := j) (by rw [HCD.out]; exact h0)))
            have hq : (cd != 0) = true := by simpa using h0
            clear HA h0
            have ls := lt_of_block XS.out
            have ln := lt_of_block XN.out
            have qs0 := bxc XS.out 0 _ rfl
            have qs1 := bxc XS.out 1 _ rfl
            have qs2 := bxc XS.out 2 _ rfl
            have qs3 := bxc XS.out 3 _ rfl
            have qs4 := bxc XS.out 4 _ rfl
            have qs5 := bxc XS.out 5 _ rfl
            have qs6 := bxc XS.out 6 _ rfl
            have qs7 := bxc XS.out 7 _ rfl
            have qs8 := bxc XS.out 8 _ rfl
            have qs9 := bxc XS.out 9 _ rfl
            have qs10 := bxc XS.out 10 _ rfl
            have qs11 := bxc XS.out 11 _ rfl
            have qs12 := bxc XS.out 12 _ rfl
            have qs13 := bxc XS.out 13 _ rfl
            have qn0 := bxc XN.out 0 _ rfl
            have qn1 := bxc XN.out 1 _ rfl
            have qn2 := bxc XN.out 2 _ rfl
            have qn3 := bxc XN.out 3 _ rfl
            go_wp2_with fail
            clear ls ln qs0 qs1 qs2 qs3 qs4 qs5 qs6 qs7 qs8 qs9 qs10 qs11 qs12 qs13 qn0 qn1 qn2 qn3 c0 c1 c2 c3
            generalize wr.alloc (.cells #[.int .i64 (tX D.asked j).lv, .slice V' m' d', .slice U' k' e', .int .i64 (tX D.asked j).sum] 56) = w4' at *
            have s4 := HW2.out.size
            have BL := (Below.refl w4'.heap.size w4').drew
            have xs : (World.drew w4').heap[w.heap.size]? = _ := XS.out
            have xn : (World.drew w4').heap[wr.heap.size]? = _ := XN.out
            have ls9 := lt_of_block xs
            have ln9 := lt_of_block xn
            first | (go_region_held3 (fun w' => w'.cell? ⟨w.heap.size, 0, none⟩ = some (.slice P g cg) ∧ w'.cell? ⟨w.heap.size, 1, none⟩ = some (.slice A n c) ∧ w'.cell? ⟨w.heap.size, 2, none⟩ = some (.slice Z m cm) ∧ w'.cell? ⟨w.heap.size, 3, none⟩ = some (.slice Y p cp) ∧ w'.cell? ⟨w.heap.size, 4, none⟩ = some (.int .i64 D.cost.a) ∧ w'.cell? ⟨w.heap.size, 5, none⟩ = some (.int .i64 D.cost.b) ∧ w'.cell? ⟨w.heap.size, 6, none⟩ = some (.int .i64 D.cost.c) ∧ w'.cell? ⟨w.heap.size, 7, none⟩ = some (.int .i64 D.cost.d) ∧ w'.cell? ⟨w.heap.size, 8, none⟩ = some (.int .i64 D.bud.a) ∧ w'.cell? ⟨w.heap.size, 9, none⟩ = some (.int .i64 D.bud.b) ∧ w'.cell? ⟨w.heap.size, 10, none⟩ = some (.int .i64 D.bud.c) ∧ w'.cell? ⟨w.heap.size, 11, none⟩ = some (.int .i64 D.bud.d) ∧ w'.cell? ⟨w.heap.size, 12, none⟩ = some (.int .i64 D.floor) ∧ w'.cell? ⟨w.heap.size, 13, none⟩ = some (.slice (some ad) q cq) ∧ w'.cell? ⟨wr.heap.size, 0, none⟩ = some (.int .i64 (tX D.asked j).lv) ∧ w'.cell? ⟨wr.heap.size, 1, none⟩ = some (.slice V' m' d') ∧ w'.cell? ⟨wr.heap.size, 2, none⟩ = some (.slice U' k' e') ∧ w'.cell? ⟨wr.heap.size, 3, none⟩ = some (.int .i64 (tX D.asked j).sum)) (exact ⟨bxc xs 0 _ rfl, bxc xs 1 _ rfl, bxc xs 2 _ rfl, bxc xs 3 _ rfl, bxc xs 4 _ rfl, bxc xs 5 _ rfl, bxc xs 6 _ rfl, bxc xs 7 _ rfl, bxc xs 8 _ rfl, bxc xs 9 _ rfl, bxc xs 10 _ rfl, bxc xs 11 _ rfl, bxc xs 12 _ rfl, bxc xs 13 _ rfl, bxc xn 0 _ rfl, bxc xn 1 _ rfl, bxc xn 2 _ rfl, bxc xn 3 _ rfl⟩) (first
                | (go_at_call 109; refine (jFind_any (some ad) V' U' j cq m' d' k' e' (D.asked.take j) (tX D.asked j) _ (((HQ1.out.below HW2.out).below BL).take hj) (HU.out.below BL)).mono ?_; rintro e wq ⟨rfl, bq⟩; rw [HF.out]; replace xs := bxb xs bq; replace xn := bxb xn bq; replace BL := BL.trans (bq.mono BL.size); clear bq)
                | (go_at_call 78; refine (jCode_any P A Z Y (some ad) g cg n c m cm p cp q cq D V' U' (some ad) m' d' k' e' j cq (tX D.asked j) (D.asked.take j) _ HSO.out (losB_ok S6.out) (losB_ok S7.out) HTB.out ((HR1.out.below HW2.out).below BL) (HU.out.below BL) ((HP1.out.below HW2.out).below BL) (((HQ1.out.below HW2.out).below BL).take hj)).mono ?_; rintro e wq ⟨rfl, bq⟩; rw [HCD.out]; replace xs := bxb xs bq; replace xn := bxb xn bq; replace BL := BL.trans (bq.mono BL.size); clear bq)
                | fail)) | fail
            all_goals (have HW7 := Lib.hid (HW2.out.trans (BL.mono s4)); clear xs xn BL XS XN HW2 HU s4 ls9 ln9)
            all_goals (go_wp2; go_ret; exact ⟨ret_bool R.out, HB1.out.trans (HW7.out.mono s01)⟩)
        · obtain rfl : q = j := by omega
          have R := Lib.hid (sv_yes hlp.out hlq.out S1.out S2.out S3.out h20 S6.out S7.out S8.out S9.out HA.out)
          go_wp2
          go_ret
          exact ⟨ret_bool R.out, HB1.out.trans (HW.out.mono s01)⟩
end Go.Proofs.YtfanpbfmnckmnaaGreat
