/- The least diversity, of the program and of the reference. -/
import Derived.Test.YtgeilnkglbcmeaaGreatZh
namespace Go.Proofs.YtgeilnkglbcmeaaGreat
open Go.RowKit

def seenA (l : List Int) : Array Value := ((List.range 8).map fun (v : Nat) => Value.bool (decide ((v : Int) ∈ l))).toArray
theorem seenA_nil : seenA [] = #[.bool false, .bool false, .bool false, .bool false, .bool false, .bool false, .bool false, .bool false] := rfl
theorem seenA_at {l : List Int} {v : Nat} (h : v < 8) : (seenA l)[v]? = some (.bool (decide ((v : Int) ∈ l))) := by simp [seenA, h]
theorem seenA_set {l : List Int} {v : Nat} : (seenA l).setIfInBounds v (.bool true) = seenA (l ++ [(v : Int)]) := by
  apply Array.ext_getElem?
  intro t
  rw [Array.getElem?_setIfInBounds]
  have hs : (seenA l).size = 8 := by simp [seenA]
  by_cases e : v = t
  · subst e
    by_cases h : v < 8
    · rw [if_pos rfl, if_pos (by omega), seenA_at h]; simp
    · rw [if_pos rfl, if_neg (by omega)]
      have hs2 : (seenA (l ++ [(v : Int)])).size = 8 := by simp [seenA]
      rw [Array.getElem?_eq_none (by omega)]
  · rw [if_neg e]
    by_cases h : t < 8
    · rw [seenA_at h, seenA_at h]
      have : ¬ (t : Int) = (v : Int) := by omega
      simp [this]
    · have hs2 : (seenA (l ++ [(v : Int)])).size = 8 := by simp [seenA]
      rw [Array.getElem?_eq_none (by omega), Array.getElem?_eq_none (by omega)]
theorem seenA_same {l : List Int} {a : Int} (h : a ∈ l) : seenA (l ++ [a]) = seenA l := by
  unfold seenA
  congr 1
  apply List.map_congr_left
  intro v _
  congr 1
  by_cases e : (v : Int) = a
  · subst e; simp [h]
  · simp [e]

set_option maxRecDepth 100000 in
set_option maxHeartbeats 4000000 in
theorem implLeastDiversity_law (tg : Int) (A B U : Option Addr) (n c m d l k' : Nat) (vs : List (ByteArray × Int)) (rs : List RecD) (us : List Int) (w : World) (hx : SchR w A n c vs) (hy : DatR w B m rs) (hu : IntR w U l us) :
    Calls Tryz.prog 18 #[.slice A n c, .slice B m d, .slice U l k', .int .i64 tg] w fun e w' => e = .returned (.tuple #[.int .i64 (ldV tg vs rs us), .bool (ldB tg vs rs us)]) ∧ Below w.heap.size w w' := by
  have hlen := Lib.hid hx.len
  have hml := Lib.hid hy.len
  have hnb := hx.bd
  have hmb := hy.bd
  cases h0 : keyedB vs rs us
  · have hB : ldB tg vs rs us = false := by unfold ldB; rw [h0]; rfl
    have H0 := Lib.hid h0
    clear h0
    have RB := Lib.hid hB
    have RV : Hid (ldV tg vs rs us = 0) := Lib.hid (by rw [ldV, if_neg (by simp [hB])])
    clear hB
    go_enter Tryz.func18, Tryz.ntmps18
    go_wp2_with fail
    refine (areKeyed_any _ _ _ n _ m _ l _ vs rs us _ hx hy hu).mono ?_
    rintro e w1 ⟨rfl, b1⟩
    rw [H0.out]
    have B1 := Lib.hid b1
    clear b1 hx hy hu
    go_wp2
    go_ret2
    exact ⟨ret_two RV.out.symm RB.out.symm, B1.out⟩
  have H0 := Lib.hid h0
  by_cases hi : 0 ≤ tg ∧ tg < n
  case neg =>
    have hB : ldB tg vs rs us = false := by unfold ldB; rw [h0, hlen.out, inR_no (by omega)]; rfl
    clear h0
    have RB := Lib.hid hB
    have RV : Hid (ldV tg vs rs us = 0) := Lib.hid (by rw [ldV, if_neg (by simp [hB])])
    clear hB
    by_cases hi0 : tg < 0
    all_goals
      have hi1 : ¬ tg < 0 → (n : Int) ≤ tg := fun h => by omega
      clear hi
      go_enter Tryz.func18, Tryz.ntmps18
      go_wp2_with fail
      refine (areKeyed_any _ _ _ n _ m _ l _ vs rs us _ hx hy hu).mono ?_
      rintro e w1 ⟨rfl, b1⟩
      rw [H0.out]
      have B1 := Lib.hid b1
      clear b1 hx hy hu
      first
        | (have hi2 : (n : Int) ≤ tg := hi1 hi0; clear hi1; go_wp2; go_ret2; exact ⟨ret_two RV.out.symm RB.out.symm, B1.out⟩)
        | (clear hi1; go_wp2; go_ret2; exact ⟨ret_two RV.out.symm RB.out.symm, B1.out⟩)
  cases h2 : hasB us tg
  case true =>
    have hB : ldB tg vs rs us = false := by unfold ldB; rw [h0, hlen.out, inR_yes hi.1 (by omega), h2]; rfl
    have H2 := Lib.hid h2
    clear h0 h2
    have RB := Lib.hid hB
    have RV : Hid (ldV tg vs rs us = 0) := Lib.hid (by rw [ldV, if_neg (by simp [hB])])
    clear hB
    have hi1 := hi.1
    have hi2 : tg < n := by omega
    clear hi
    go_enter Tryz.func18, Tryz.ntmps18
    go_wp2_with fail
    refine (areKeyed_any _ _ _ n _ m _ l _ vs rs us _ hx hy hu).mono ?_
    rintro e w1 ⟨rfl, b1⟩
    rw [H0.out]
    have hu1 := hu.below b1
    have B1 := Lib.hid b1
    clear b1 hx hy hu
    go_wp2_with fail
    refine (contains_any _ _ _ _ _ _ hu1).mono ?_
    rintro e w2 ⟨rfl, rfl⟩
    rw [H2.out]
    clear hu1
    go_wp2
    go_ret2
    exact ⟨ret_two RV.out.symm RB.out.symm, B1.out⟩
  have hB : ldB tg vs rs us = true := by unfold ldB; rw [h0, hlen.out, inR_yes hi.1 (by omega), h2]; rfl
  have H2 := Lib.hid h2
  have hall := keyed_all hlen.out h0
  have hm40 : m ≤ 40 := by have := hall.forty; rw [hml.out] at this; exact this
  have h6 : n ≤ 6 := by have := (schB_of hall.s).1; rw [hlen.out] at this; omega
  obtain ⟨q, hq, hqn⟩ : ∃ q : Nat, Hid (tg = (q : Int)) ∧ q < n := ⟨tg.toNat, Lib.hid (by omega), by omega⟩
  have RB := Lib.hid hB
  have RV : Hid (ldV tg vs rs us = ldN vs us rs q m) := Lib.hid (by rw [ldV, if_pos hB, hml.out, hq.out]; rfl)
  have HALL := Lib.hid hall
  have HVAL := Lib.hid (fun (t : Nat) (ht : t < m) => (show 0 ≤ (rV rs t)[q]?.getD 0 ∧ (rV rs t)[q]?.getD 0 < 8 by
    have hk := HALL.out.at_ (i := t) (by rw [hml.out]; exact ht)
    have h1 := (valsB_of hk.v).2 q (by rw [hlen.out]; exact hqn)
    have h2 := (schB_of hk.s).2 q (by rw [hlen.out]; exact hqn)
    omega))
  have HLV := Lib.hid (fun (t : Nat) (ht : t < m) => (show (rV rs t).length = n by
    have hk := HALL.out.at_ (i := t) (by rw [hml.out]; exact ht)
    have h1 := (valsB_of hk.v).1
    rw [h1, hlen.out]))
  clear hB hall
  clear h0 h2
  have hd1 : decide ((q : Int) < 0) = false := decide_eq_false (by omega)
  have hd2 : decide (n ≤ q) = false := decide_eq_false (by omega)
  have hd3 : decide ((n : Int) ≤ (q : Int)) = false := decide_eq_false (by omega)
  clear hi
  rw [RV.out, RB.out]
  have H2q : Hid (hasB us (q : Int) = false) := Lib.hid (by rw [← hq.out]; exact H2.out)
  rw [hq.out]
  go_enter Tryz.func18, Tryz.ntmps18
  go_wp2_with fail
  refine (areKeyed_any _ _ _ n _ m _ l _ vs rs us _ hx hy hu).mono ?_
  rintro e w1 ⟨rfl, b1⟩
  rw [H0.out]
  have hu1 := hu.below b1
  have HX := Lib.hid (hx.below b1)
  have HY := Lib.hid (hy.below b1)
  have HU := Lib.hid hu1
  have HB1 := Lib.hid b1
  clear b1 hx hy hu
  go_wp2_with fail
  refine (contains_any _ _ _ _ _ _ hu1).mono ?_
  rintro e w2 ⟨rfl, rfl⟩
  rw [H2q.out]
  clear hu1
  go_wp2
  go_loopw [10, 40] (fun a i wr => ∃ (j : Nat), j ≤ m ∧ i = .int .i64 j ∧ a = .int .i64 (ldN vs us rs q j) ∧ Below w1.heap.size w1 wr) (fun _ i _ => m - (intOf i).toNat)
  case atStart => exact ⟨0, Nat.zero_le _, rfl, rfl, Below.refl _ _⟩
  case round =>
    obtain ⟨j, hj, rfl, rfl, hbw⟩ := hrel
    obtain ⟨wo, rfl⟩ : ∃ wo : World, wo = wr := ⟨_, rfl⟩
    by_cases hlt : j < m
    · obtain ⟨ad, rfl, c0, c1, V, lv, cv, c2, hv⟩ := HY.out.r.later hbw hlt
      have hk1 := Lib.hid (HALL.out.at_ (show j < rs.length by rw [hml.out]; exact hlt))
      have hlvn : Hid (lv = n) := Lib.hid (by rw [← hv.1]; exact HLV.out j hlt)
      have hlvb : lv ≤ 1099511627776 := by have := hlvn.out; omega
      obtain ⟨x, hxe⟩ : ∃ x, rA rs j = x := ⟨_, rfl⟩
      obtain ⟨y, hye⟩ : ∃ y, rH rs j = y := ⟨_, rfl⟩
      rw [hxe] at c0
      rw [hye] at c1
      have HXE := Lib.hid hxe
      clear hye hxe
      have hbx := box_two wo #[.int .i64 x, .int .i64 y, .slice V lv cv] #[.bool false, .bool false, .bool false, .bool false, .bool false, .bool false, .bool false, .bool false] 53 70
      have HV := Lib.hid hv
      have HB2 := Lib.hid (hbw.trans (hbx.1.mono hbw.size))
      have hwo := hbw.size
      have X2 := Lib.hid hbx.2.1
      have S2 := Lib.hid hbx.2.2
      clear hv hbx
      go_wp2_with fail
      clear hbw c0 c1 c2
      generalize (wo.alloc (.cells #[.int .i64 x, .int .i64 y, .slice V lv cv] 53)).alloc (.cells #[.bool false, .bool false, .bool false, .bool false, .bool false, .bool false, .bool false, .bool false] 70) = w2 at *
      have S2' : Hid (w2.heap[wo.heap.size + 1]? = some (.cells (seenA (clsV vs us rs q j 0)) 70 (0, 0))) := S2
      clear S2
      go_loopw [14, 46] (fun a i wq => ∃ t : Nat, t ≤ m ∧ i = .int .i64 t ∧ a = .int .i64 (dcnt (clsV vs us rs q j t) : Nat) ∧ Hid (wq.heap[wo.heap.size]? = some (.cells #[.int .i64 x, .int .i64 y, .slice V lv cv] 53 (0, 0))) ∧ Hid (wq.heap[wo.heap.size + 1]? = some (.cells (seenA (clsV vs us rs q j t)) 70 (0, 0))) ∧ Hid (Below w1.heap.size w1 wq)) (fun _ i _ => m - (intOf i).toNat)
      case atStart => exact ⟨0, Nat.zero_le _, rfl, rfl, X2, S2', HB2⟩
      case round =>
        clear X2 S2' HB2
        obtain ⟨t, ht, rfl, rfl, X2, S2, HB2⟩ := hrel
        obtain ⟨wm, rfl⟩ : ∃ wm : World, wm = wr := ⟨_, rfl⟩
        by_cases htm : t < m
        · obtain ⟨ad2, ea, e0, e1, V2, lv2, cv2, e2, hv2⟩ := HY.out.r.later HB2.out htm
          injection ea with ea
          subst ea
          have hk3 := Lib.hid (HALL.out.at_ (show t < rs.length by rw [hml.out]; exact htm))
          have hlvn2 : Hid (lv2 = n) := Lib.hid (by rw [← hv2.1]; exact HLV.out t htm)
          have hlvb2 : lv2 ≤ 1099511627776 := by have := hlvn2.out; omega
          have hq2 : q < lv2 := by rw [hlvn2.out]; exact hqn
          obtain ⟨av, rfl, hcv⟩ := (hv2.below HB2.out).at_ hq2
          obtain ⟨hu0, hu8⟩ := HVAL.out t htm
          obtain ⟨u, hu⟩ : ∃ u : Nat, (rV rs t)[q]?.getD 0 = (u : Int) := ⟨((rV rs t)[q]?.getD 0).toNat, by omega⟩
          rw [hu] at hcv hu8
          have HUV := Lib.hid hu
          have hu8' : u < 8 := by omega
          clear hu hu0
          have hdl := dcnt_le (clsV vs us rs q j t)
          have hcl := clsV_len vs us rs q j t
          have C1 := Lib.hid (fun h => clsV_yes (vs := vs) (us := us) (rs := rs) (tg := q) (i := j) (j := t) h)
          have C0 := Lib.hid (fun h => clsV_no (vs := vs) (us := us) (rs := rs) (tg := q) (i := j) (j := t) h)
          rw [HUV.out] at C1
          obtain ⟨x2, hxe2⟩ : ∃ x, rA rs t = x := ⟨_, rfl⟩
          obtain ⟨y2, hye2⟩ : ∃ y, rH rs t = y := ⟨_, rfl⟩
          rw [hxe2] at e0
          rw [hye2] at e1
          have HL := Lib.hid (show lnk vs us rs rs j t = sameB x (keyV vs (rV rs j) us) x2 (keyV vs (rV rs t) us) by unfold lnk; rw [HXE.out, hxe2])
          clear hye2 hxe2
          have b3 := below_new wm (.cells #[.int .i64 x2, .int .i64 y2, .slice (some av) lv2 cv2] 53)
          have q0 := box_new wm #[.int .i64 x2, .int .i64 y2, .slice (some av) lv2 cv2] 53
          have p0 := box_below X2.out b3
          have HP3 := Lib.hid p0
          have S3 := Lib.hid (box_below S2.out b3)
          have HB3 := Lib.hid (HB2.out.trans (b3.mono HB2.out.size))
          have HW := Lib.hid hv2
          have hcv3 := (b3.cell (block_lt_of_cell hcv)).trans hcv
          have g0 := box_cell p0 0 (.int .i64 x) rfl
          have g1 := box_cell p0 1 (.int .i64 y) rfl
          have g2 := box_cell p0 2 (.slice V lv cv) rfl
          have f0 := box_cell q0 0 (.int .i64 x2) rfl
          have f1 := box_cell q0 1 (.int .i64 y2) rfl
          have f2 := box_cell q0 2 (.slice (some av) lv2 cv2) rfl
          clear X2 S2 HB2 hv2 b3 p0 q0
          go_wp2_with fail
          clear e0 e1 e2 hcv
          generalize wm.alloc (.cells #[.int .i64 x2, .int .i64 y2, .slice (some av) lv2 cv2] 53) = w3 at *
          refine (sameClass_any _ _ _ _ n _ lv _ lv2 _ l _ x y x2 y2 vs (rV rs j) (rV rs t) us _ (HX.out.below HB3.out) ⟨HV.out.below HB3.out, hlvb⟩ ⟨HW.out.below HB3.out, hlvb2⟩ (HU.out.below HB3.out) hk1.out hk3.out).mono ?_
          rintro e w4 ⟨rfl, b4⟩
          rw [← HL.out]
          have HP4 := Lib.hid (box_below HP3.out b4)
          have S4 := Lib.hid (box_below S3.out b4)
          have HB4 := Lib.hid (HB3.out.trans (b4.mono HB3.out.size))
          clear HP3 S3 HB3 HW b4 g0 g1 g2 f0 f1 f2 hcv3
          generalize clsV vs us rs q j t = cl at *
          cases hB : lnk vs us rs rs j t
          · have R := Lib.hid (C0.out hB)
            clear hB
            go_wp2
            go_roundw
            case rel => exact ⟨t + 1, by omega, by go_num, by rw [R.out], HP4, by rw [R.out]; exact S4, HB4⟩
            case measure => simp [intOf]; omega
          · have R := Lib.hid (C1.out hB)
            clear hB
            by_cases hin : (u : Int) ∈ cl
            · have hcell := box_cell S4.out u (.bool true) (by rw [seenA_at hu8', decide_eq_true hin])
              have RS := Lib.hid (seenA_same hin)
              have RD := Lib.hid (show dcnt (cl ++ [(u : Int)]) = dcnt cl by rw [dcnt_snoc, if_pos hin]; rfl)
              clear hin
              go_wp2
              go_roundw
              case rel => exact ⟨t + 1, by omega, by go_num, by rw [R.out, RD.out], HP4, by rw [R.out, RS.out]; exact S4, HB4⟩
              case measure => simp [intOf]; omega
            · have hcell := box_cell S4.out u (.bool false) (by rw [seenA_at hu8', decide_eq_false hin])
              have hfree := box_free S4.out u
              have RD := Lib.hid (show dcnt (cl ++ [(u : Int)]) = dcnt cl + 1 by rw [dcnt_snoc, if_neg hin])
              have S5 := Lib.hid (box_set S4.out u (.bool true))
              rw [seenA_set] at S5
              have HP5 := Lib.hid ((Below.heap_setCell w4 ⟨wo.heap.size + 1, u, none⟩ (.bool true) wo.heap.size (by simp)).trans HP4.out)
              have HB5 := Lib.hid (HB4.out.setCell (p := ⟨wo.heap.size + 1, u, none⟩) (by have := hwo; simp; omega) (.bool true))
              clear hin
              generalize dcnt cl = dc at *
              go_wp2
              go_roundw
              case rel => exact ⟨t + 1, by omega, by go_num, by rw [R.out, RD.out]; go_num, HP5, by rw [R.out]; exact S5, HB5⟩
              case measure => simp [intOf]; omega
        · obtain rfl : t = m := by omega
          have HD := Lib.hid (show ((dcnt (clsV vs us rs q j t) : Nat) : Int) = ldD vs us rs q j by unfold ldD; rw [hml.out])
          rw [HD.out]
          have hB2 := HB2.out
          have hb1 := ldN_bd vs us rs q j
          have hb2 := ldD_bd vs us rs q j
          have T1 := Lib.hid (ldN_take (vs := vs) (us := us) (rs := rs) (tg := q) (i := j))
          have K1 := Lib.hid (ldN_keep (vs := vs) (us := us) (rs := rs) (tg := q) (i := j))
          clear X2 S2 HB2
          rw [hml.out] at hb1 hb2
          generalize ldD vs us rs q j = dd at *
          generalize ldN vs us rs q j = ln at *
          by_cases hz : ln = 0
          · have R := Lib.hid (T1.out (.inl hz))
            have hz' : (ln == 0) = true := by simp [hz]
            clear hz
            go_wp2
            go_roundw
            case rel => exact ⟨j + 1, by omega, by go_num, by rw [R.out], hB2⟩
            case measure => simp [intOf]; omega
          · have hz' : (ln == 0) = false := by simp [hz]
            by_cases hlt2 : dd < ln
            · have R := Lib.hid (T1.out (.inr hlt2))
              clear hz
              go_wp2
              go_roundw
              case rel => exact ⟨j + 1, by omega, by go_num, by rw [R.out], hB2⟩
              case measure => simp [intOf]; omega
            · have R := Lib.hid (K1.out (by rintro (h | h); · exact hz h
                                            · exact hlt2 h))
              clear hz
              go_wp2
              go_roundw
              case rel => exact ⟨j + 1, by omega, by go_num, by rw [R.out], hB2⟩
              case measure => simp [intOf]; omega
    · obtain rfl : j = m := by omega
      go_wp2
      go_ret2
      exact ⟨rfl, HB1.out.trans (hbw.mono HB1.out.size)⟩

set_option maxRecDepth 100000 in
set_option maxHeartbeats 4000000 in
theorem specLeastDiversity_law (tg : Int) (A B U : Option Addr) (n c m d l k' : Nat) (vs : List (ByteArray × Int)) (rs : List RecD) (us : List Int) (w : World) (hx : SchR w A n c vs) (hy : DatR w B m rs) (hu : IntR w U l us) :
    Calls Tryz.prog 19 #[.slice A n c, .slice B m d, .slice U l k', .int .i64 tg] w fun e w' => e = .returned (.tuple #[.int .i64 (ldV tg vs rs us), .bool (ldB tg vs rs us)]) ∧ Below w.heap.size w w' := by
  have hlen := Lib.hid hx.len
  have hml := Lib.hid hy.len
  have hnb := hx.bd
  have hmb := hy.bd
  cases h0 : keyedB vs rs us
  · have hB : ldB tg vs rs us = false := by unfold ldB; rw [h0]; rfl
    have H0 := Lib.hid h0
    clear h0
    have RB := Lib.hid hB
    have RV : Hid (ldV tg vs rs us = 0) := Lib.hid (by rw [ldV, if_neg (by simp [hB])])
    clear hB
    go_enter Tryz.func19, Tryz.ntmps19
    go_wp2_with fail
    refine (swInput_any _ _ _ n _ m _ l _ vs rs us _ hx hy hu).mono ?_
    rintro e w1 ⟨rfl, b1⟩
    rw [H0.out]
    have B1 := Lib.hid b1
    clear b1 hx hy hu
    go_wp2
    go_ret2
    exact ⟨ret_two RV.out.symm RB.out.symm, B1.out⟩
  have H0 := Lib.hid h0
  cases h1 : inR tg 0 ((n : Int) - 1)
  · have hB : ldB tg vs rs us = false := by unfold ldB; rw [h0, hlen.out, h1]; rfl
    have H1 := Lib.hid h1
    clear h0 h1
    have RB := Lib.hid hB
    have RV : Hid (ldV tg vs rs us = 0) := Lib.hid (by rw [ldV, if_neg (by simp [hB])])
    clear hB
    go_enter Tryz.func19, Tryz.ntmps19
    go_wp2_with fail
    refine (swInput_any _ _ _ n _ m _ l _ vs rs us _ hx hy hu).mono ?_
    rintro e w1 ⟨rfl, b1⟩
    rw [H0.out]
    have B1 := Lib.hid b1
    clear b1 hx hy hu
    go_wp2_with fail
    refine (l1In_any _ _ _ _).mono ?_
    rintro e w2 ⟨rfl, rfl⟩
    rw [H1.out]
    go_wp2
    go_ret2
    exact ⟨ret_two RV.out.symm RB.out.symm, B1.out⟩
  have H1 := Lib.hid h1
  have hi := inR_of h1
  cases h2 : hasB us tg
  case true =>
    have hB : ldB tg vs rs us = false := by unfold ldB; rw [h0, hlen.out, h1, h2]; rfl
    have H2 := Lib.hid h2
    clear h0 h2 h1
    have RB := Lib.hid hB
    have RV : Hid (ldV tg vs rs us = 0) := Lib.hid (by rw [ldV, if_neg (by simp [hB])])
    clear hB
    have hi1 := hi.1
    have hi2 : tg < n := by omega
    clear hi
    go_enter Tryz.func19, Tryz.ntmps19
    go_wp2_with fail
    refine (swInput_any _ _ _ n _ m _ l _ vs rs us _ hx hy hu).mono ?_
    rintro e w1 ⟨rfl, b1⟩
    rw [H0.out]
    go_wp2_with fail
    refine (l1In_any _ _ _ _).mono ?_
    rintro e w1' ⟨rfl, rfl⟩
    rw [H1.out]
    have hu1 := hu.below b1
    have B1 := Lib.hid b1
    clear b1 hx hy hu
    go_wp2_with fail
    refine (l1Has_any _ _ _ _ _ _ hu1).mono ?_
    rintro e w2 ⟨rfl, rfl⟩
    rw [H2.out]
    clear hu1
    go_wp2
    go_ret2
    exact ⟨ret_two RV.out.symm RB.out.symm, B1.out⟩
  have hB : ldB tg vs rs us = true := by unfold ldB; rw [h0, hlen.out, h1, h2]; rfl
  have H2 := Lib.hid h2
  have hall := keyed_all hlen.out h0
  have hm40 : m ≤ 40 := by have := hall.forty; rw [hml.out] at this; exact this
  have h6 : n ≤ 6 := by have := (schB_of hall.s).1; rw [hlen.out] at this; omega
  obtain ⟨q, hq, hqn⟩ : ∃ q : Nat, Hid (tg = (q : Int)) ∧ q < n := ⟨tg.toNat, Lib.hid (by omega), by omega⟩
  have RB := Lib.hid hB
  have RV : Hid (ldV tg vs rs us = ldN vs us rs q m) := Lib.hid (by rw [ldV, if_pos hB, hml.out, hq.out]; rfl)
  have HALL := Lib.hid hall
  have HVAL := Lib.hid (fun (t : Nat) (ht : t < m) => (show 0 ≤ (rV rs t)[q]?.getD 0 ∧ (rV rs t)[q]?.getD 0 < 8 by
    have hk := HALL.out.at_ (i := t) (by rw [hml.out]; exact ht)
    have h1 := (valsB_of hk.v).2 q (by rw [hlen.out]; exact hqn)
    have h2 := (schB_of hk.s).2 q (by rw [hlen.out]; exact hqn)
    omega))
  have HLV := Lib.hid (fun (t : Nat) (ht : t < m) => (show (rV rs t).length = n by
    have hk := HALL.out.at_ (i := t) (by rw [hml.out]; exact ht)
    have h1 := (valsB_of hk.v).1
    rw [h1, hlen.out]))
  clear hB hall
  clear h0 h2 h1
  have hd1 : decide ((q : Int) < 0) = false := decide_eq_false (by omega)
  have hd2 : decide (n ≤ q) = false := decide_eq_false (by omega)
  have hd3 : decide ((n : Int) ≤ (q : Int)) = false := decide_eq_false (by omega)
  clear hi
  rw [RV.out, RB.out]
  have H2q : Hid (hasB us (q : Int) = false) := Lib.hid (by rw [← hq.out]; exact H2.out)
  have H1q : Hid (inR (q : Int) 0 ((n : Int) - 1) = true) := Lib.hid (by rw [← hq.out]; exact H1.out)
  rw [hq.out]
  go_enter Tryz.func19, Tryz.ntmps19
  go_wp2_with fail
  refine (swInput_any _ _ _ n _ m _ l _ vs rs us _ hx hy hu).mono ?_
  rintro e w1 ⟨rfl, b1⟩
  rw [H0.out]
  go_wp2_with fail
  refine (l1In_any _ _ _ _).mono ?_
  rintro e w1' ⟨rfl, rfl⟩
  rw [H1q.out]
  have hu1 := hu.below b1
  have HX := Lib.hid (hx.below b1)
  have HY := Lib.hid (hy.below b1)
  have HU := Lib.hid hu1
  have HB1 := Lib.hid b1
  clear b1 hx hy hu
  go_wp2_with fail
  refine (l1Has_any _ _ _ _ _ _ hu1).mono ?_
  rintro e w2 ⟨rfl, rfl⟩
  rw [H2q.out]
  clear hu1
  go_wp2_with fail
  refine (liSets_any _ _ _ _ n _ m _ m _ l _ vs rs rs us _ HX.out HY.out HY.out HU.out HALL.out HALL.out).mono ?_
  rintro e w2 ⟨A1, c1, rfl, o1, b2⟩
  have O1 := Lib.hid o1.read
  have HB2 := Lib.hid (HB1.out.trans (b2.mono HB1.out.size))
  have HY2 := Lib.hid (HY.out.below b2)
  clear o1 b2 HX HY HU
  go_wp2
  go_loopw [10, 40] (fun a i wr => ∃ (j : Nat), j ≤ m ∧ i = .int .i64 j ∧ a = .int .i64 (ldN vs us rs q j) ∧ Below w2.heap.size w2 wr) (fun _ i _ => m - (intOf i).toNat)
  case atStart => exact ⟨0, Nat.zero_le _, rfl, rfl, Below.refl _ _⟩
  case round =>
    obtain ⟨j, hj, rfl, rfl, hbw⟩ := hrel
    obtain ⟨wo, rfl⟩ : ∃ wo : World, wo = wr := ⟨_, rfl⟩
    by_cases hlt : j < m
    · obtain ⟨ad, rfl, V, cv, hc, hv⟩ := (O1.out.below hbw).at_ hlt
      have hllen : (setL vs us rs rs j).length ≤ 40 := by have := linkK_len (lnk vs us rs rs j) rs.length; unfold setL; rw [hml.out] at *; omega
      have hSL : Hid (setL vs us rs rs j = linkK (lnk vs us rs rs j) m) := Lib.hid (by unfold setL; rw [hml.out])
      have HV := Lib.hid hv
      have HBW := Lib.hid hbw
      have hsz := hbw.size
      obtain ⟨ln, hln⟩ : ∃ ln, Hid ((setL vs us rs rs j).length = ln) := ⟨_, Lib.hid rfl⟩
      have HV2 : Hid (Ints wo V ln (setL vs us rs rs j)) := Lib.hid (by rw [← hln.out]; exact HV.out)
      rw [hln.out] at hc hllen
      clear hv HV
      go_wp2_with fail
      clear hc hbw
      go_loopw [13, 46] (fun a i wq => ∃ (t : Nat) (D : Option Addr) (c3 : Nat) (Vl : List Int), t ≤ ln ∧ i = .int .i64 t ∧ a = .slice D Vl.length c3 ∧ Hid (Own wq w2.heap.size D Vl.length c3 Vl) ∧ Hid (Holds Vl (((setL vs us rs rs j).take t).map fun k => (rV rs k.toNat)[q]?.getD 0)) ∧ Vl.length ≤ t ∧ Hid (Below wo.heap.size wo wq)) (fun _ i _ => ln - (intOf i).toNat)
      case atStart => exact ⟨0, none, 0, [], Nat.zero_le _, rfl, rfl, Lib.hid Own.nil_, Lib.hid Holds.nil_, Nat.le_refl _, Lib.hid (Below.refl _ _)⟩
      case round =>
        obtain ⟨t, D, c3, Vl, ht, rfl, rfl, HO, HH, hvl, HBq⟩ := hrel
        by_cases htl : t < ln
        · obtain ⟨av, rfl, hcv⟩ := (HV2.out.below HBq.out).at_ htl
          have hkat := linkK_at (p := lnk vs us rs rs j) (n := m) (i := t) (by rw [← hSL.out, hln.out]; exact htl)
          obtain ⟨k, hkm, hke, _⟩ := hkat
          rw [← hSL.out] at hke
          rw [hke] at hcv
          have HT := Lib.hid (show ((setL vs us rs rs j).take (t + 1)).map (fun k => (rV rs k.toNat)[q]?.getD 0) = ((setL vs us rs rs j).take t).map (fun k => (rV rs k.toNat)[q]?.getD 0) ++ [(rV rs k)[q]?.getD 0] by
            rw [List.take_succ_eq_append_getElem (by rw [hln.out]; exact htl), List.map_append, List.map_singleton]
            have e : (setL vs us rs rs j)[t]'(by rw [hln.out]; exact htl) = (k : Int) := by
              have := hke
              rw [List.getElem?_eq_getElem (by rw [hln.out]; exact htl)] at this
              exact this
            rw [e]; rfl)
          have HBB := Lib.hid (HBW.out.trans (HBq.out.mono HBW.out.size))
          obtain ⟨ad2, rfl, e0, e1, V2, lv2, cv2, e2, hv2⟩ := HY2.out.r.later HBB.out hkm
          have hlvn2 : Hid (lv2 = n) := Lib.hid (by rw [← hv2.1]; exact HLV.out k hkm)
          have hq2 : q < lv2 := by rw [hlvn2.out]; exact hqn
          obtain ⟨aw, rfl, hcw⟩ := (hv2.below HBB.out).at_ hq2
          have hszq := HBB.out.size
          have HHp := Lib.hid (fun ys h => HH.out.put (ys := ys) (v := (rV rs k)[q]?.getD 0) h)
          rw [← HT.out] at HHp
          have hvb := HVAL.out k hkm
          clear hke hv2 HT HH
          generalize (rV rs k)[q]?.getD 0 = v at *
          go_wp2_with fail
          clear e0 e1 e2 hcv hcw
          refine (l1Put_any D w2.heap.size _ c3 v Vl _ HO.out (by omega) hszq).mono ?_
          rintro e w5 ⟨A5, c5, ys, rfl, o5, hp, b5⟩
          have HO5 := Lib.hid o5
          have HH5 := Lib.hid (HHp.out ys hp)
          have HB5 := Lib.hid (HBq.out.trans (b5.mono HBq.out.size))
          have hyl : ys.length ≤ t + 1 := by
            have h1 := HH5.out.n
            have h2 := dcnt_le (((setL vs us rs rs j).take (t + 1)).map fun k => (rV rs k.toNat)[q]?.getD 0)
            rw [List.length_map, List.length_take] at h2
            omega
          clear o5 hp b5 HHp HO HBq HBB
          go_wp2
          go_roundw
          case rel => exact ⟨t + 1, A5, c5, ys, by omega, by go_num, rfl, HO5, HH5, hyl, HB5⟩
          case measure => simp [intOf]; omega
        · obtain rfl : t = ln := by omega
          have HD := Lib.hid (show ((Vl.length : Nat) : Int) = ldD vs us rs q j by
            rw [HH.out.n, List.take_of_length_le (by rw [hln.out]; omega)]
            unfold ldD clsV setL
            rfl)
          have hB2 := HBW.out.trans (HBq.out.mono HBW.out.size)
          have hb1 := ldN_bd vs us rs q j
          have T1 := Lib.hid (ldN_take (vs := vs) (us := us) (rs := rs) (tg := q) (i := j))
          have K1 := Lib.hid (ldN_keep (vs := vs) (us := us) (rs := rs) (tg := q) (i := j))
          rw [← HD.out] at T1 K1
          rw [hml.out] at hb1
          clear HH HBq HO HD
          generalize Vl.length = dd at *
          generalize ldN vs us rs q j = lx at *
          by_cases hz : lx = 0
          · have R := Lib.hid (T1.out (.inl hz))
            have hz' : (lx == 0) = true := by simp [hz]
            clear hz
            go_wp2
            go_roundw
            case rel => exact ⟨j + 1, by omega, by go_num, by rw [R.out], hB2⟩
            case measure => simp [intOf]; omega
          · have hz' : (lx == 0) = false := by simp [hz]
            by_cases hlt2 : (dd : Int) < lx
            · have R := Lib.hid (T1.out (.inr hlt2))
              clear hz
              go_wp2
              go_roundw
              case rel => exact ⟨j + 1, by omega, by go_num, by rw [R.out], hB2⟩
              case measure => simp [intOf]; omega
            · have R := Lib.hid (K1.out (by rintro (h | h); · exact hz h
                                            · exact hlt2 h))
              clear hz
              go_wp2
              go_roundw
              case rel => exact ⟨j + 1, by omega, by go_num, by rw [R.out], hB2⟩
              case measure => simp [intOf]; omega
    · obtain rfl : j = m := by omega
      go_wp2
      go_ret2
      exact ⟨rfl, HB2.out.trans (hbw.mono HB2.out.size)⟩
end Go.Proofs.YtgeilnkglbcmeaaGreat
