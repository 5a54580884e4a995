/- SwapRate of the reference; printed by gfd.py. -/
import Derived.Test.YtahbcnclhohnaaaGreatFsD
namespace Go.Proofs.YtahbcnclhohnaaaGreat
open Go.RowKit

set_option maxRecDepth 100000 in
set_option maxHeartbeats 1000000 in
theorem specSwapRate_any (A B P : Option Addr) (n c m d cp : Nat) (vs : List (ByteArray × Int)) (rs : List RecD) (R : List (List Int)) (w : World) (hx : SchR w A n c vs) (hy : DatR w B m rs) (hr : IntsS w P R.length (fun t => R[t]?.getD [])) (hl : R.length ≤ 1099511627776) (_hrl : ∀ t, t < R.length → (R[t]?.getD []).length ≤ 1099511627776) :
    Calls Tryz.prog 18 #[.slice A n c, .slice B m d, .slice P R.length cp] w fun e w' => e = .returned (.tuple #[.agg #[.int .i64 (fN (srO vs rs R)), .int .i64 (fD (srO vs rs R))], .bool (fB (srO vs rs R))]) ∧ Below w.heap.size w w' := by
  obtain ⟨O, hO⟩ : ∃ O, srO vs rs R = O := ⟨_, rfl⟩
  rw [hO]
  have HO := Lib.hid hO
  clear hO
  have hml : rs.length = m := hy.r.1
  have x0 := box_new w #[.int .i64 0, .int .i64 0] 46
  have b0 := below_new w (.cells #[.int .i64 0, .int .i64 0] 46)
  have HX := Lib.hid (hx.below b0)
  have HY := Lib.hid (hy.below b0)
  have HR := Lib.hid (hr.below b0)
  have X := Lib.hid x0
  have HB := Lib.hid b0
  have HML := Lib.hid hml
  clear hx hy hr x0 b0
  go_enter Tryz.func18, Tryz.ntmps18
  go_wp2_with fail
  generalize w.alloc (.cells #[.int .i64 0, .int .i64 0] 46) = w0 at *
  refine (dInput_any A B n c m d vs rs _ HX.out HY.out).mono ?_
  rintro e w1 ⟨rfl, b1⟩
  replace HX := Lib.hid (HX.out.below b1)
  replace HY := Lib.hid (HY.out.below b1)
  replace HR := Lib.hid (HR.out.below b1)
  replace X := Lib.hid (box_below X.out b1)
  replace HB := Lib.hid (HB.out.trans (b1.mono HB.out.size))
  clear b1
  cases hd : dinB vs rs
  case false =>
    have hno : srB vs rs R = false := by unfold srB; rw [hd]; rfl
    obtain rfl : O = none := HO.out.symm.trans (srO_no hno)
    have px := X.out
    have lx := lt_of_block px
    have p0 := box_cell px 0 _ rfl
    have p1 := box_cell px 1 _ rfl
    have g0 := box_free px 0
    have g1 := box_free px 1
    have rx := box_set (box_set px 0 (.int .i64 0)) 1 (.int .i64 0)
    have r0 := box_cell rx 0 (.int .i64 0) rfl
    have r1 := box_cell rx 1 (.int .i64 0) rfl
    have FB := Lib.hid ((HB.out.setCell (p := ⟨w.heap.size, 0, none⟩) (Nat.le_refl _) (.int .i64 0)).setCell (p := ⟨w.heap.size, 1, none⟩) (Nat.le_refl _) (.int .i64 0))
    clear px rx X HB HX HY HR hno HO
    go_wp2
    exact bodyPost_ret (v := .tuple #[.agg #[.int .i64 0, .int .i64 0], .bool false]) (by simp [results, Tryz.results18, go_sem, r0, r1]) rfl ⟨rfl, FB.out⟩
  have hm40 : m ≤ 40 := by have h := hd; unfold dinB dataB at h; simp only [Bool.and_eq_true, decide_eq_true_eq] at h; omega
  go_wp2_with fail
  refine (swPairs_any P cp m R _ HR.out hl (by omega)).mono ?_
  rintro e w3 ⟨rfl, b3⟩
  replace HX := Lib.hid (HX.out.below b3)
  replace HY := Lib.hid (HY.out.below b3)
  replace HR := Lib.hid (HR.out.below b3)
  replace X := Lib.hid (box_below X.out b3)
  replace HB := Lib.hid (HB.out.trans (b3.mono HB.out.size))
  clear b3
  cases hpb : pairsB R m
  case false =>
    have hno : srB vs rs R = false := by unfold srB; rw [hml, hpb]; simp
    obtain rfl : O = none := HO.out.symm.trans (srO_no hno)
    have px := X.out
    have lx := lt_of_block px
    have p0 := box_cell px 0 _ rfl
    have p1 := box_cell px 1 _ rfl
    have g0 := box_free px 0
    have g1 := box_free px 1
    have rx := box_set (box_set px 0 (.int .i64 0)) 1 (.int .i64 0)
    have r0 := box_cell rx 0 (.int .i64 0) rfl
    have r1 := box_cell rx 1 (.int .i64 0) rfl
    have FB := Lib.hid ((HB.out.setCell (p := ⟨w.heap.size, 0, none⟩) (Nat.le_refl _) (.int .i64 0)).setCell (p := ⟨w.heap.size, 1, none⟩) (Nat.le_refl _) (.int .i64 0))
    clear px rx X HB HX HY HR hno HO
    go_wp2
    exact bodyPost_ret (v := .tuple #[.agg #[.int .i64 0, .int .i64 0], .bool false]) (by simp [results, Tryz.results18, go_sem, r0, r1]) rfl ⟨rfl, FB.out⟩
  by_cases hm0 : m = 0
  case pos =>
    have hz : ((m : Int) == 0) = true := by rw [hm0]; rfl
    have hno : srB vs rs R = false := by unfold srB; rw [hml, hm0]; simp
    obtain rfl : O = none := HO.out.symm.trans (srO_no hno)
    have px := X.out
    have lx := lt_of_block px
    have p0 := box_cell px 0 _ rfl
    have p1 := box_cell px 1 _ rfl
    have g0 := box_free px 0
    have g1 := box_free px 1
    have rx := box_set (box_set px 0 (.int .i64 0)) 1 (.int .i64 0)
    have r0 := box_cell rx 0 (.int .i64 0) rfl
    have r1 := box_cell rx 1 (.int .i64 0) rfl
    have FB := Lib.hid ((HB.out.setCell (p := ⟨w.heap.size, 0, none⟩) (Nat.le_refl _) (.int .i64 0)).setCell (p := ⟨w.heap.size, 1, none⟩) (Nat.le_refl _) (.int .i64 0))
    clear px rx X HB HX HY HR hno HO
    go_wp2
    exact bodyPost_ret (v := .tuple #[.agg #[.int .i64 0, .int .i64 0], .bool false]) (by simp [results, Tryz.results18, go_sem, r0, r1]) rfl ⟨rfl, FB.out⟩
  have hz : ((m : Int) == 0) = false := by rw [beq_eq_false_iff_ne]; omega
  have HROW := Lib.hid (pairsB_of hpb).2
  have h20 := (pairsB_of hpb).1
  have HFN := Lib.hid (fun j hj => flI_len hpb j hj)
  have HSR : Hid (srO vs rs R = redO (dcnt (flI R R.length)) m) := Lib.hid (by unfold srO; rw [if_pos (by unfold srB; rw [hd, hml, hpb, decide_eq_true (show 0 < m by omega)]; rfl), hml])
  clear hd hpb hml
  have O1 : Hid (Own w3 w3.heap.size none 0 0 []) := Lib.hid Own.nil_
  have HO0 : Hid (Holds [] (flI R 0)) := Lib.hid Holds.nil_
  have HLT := Lib.hid (lt_of_block X.out)
  have B3 := Lib.hid (Below.refl w3.heap.size w3)
  go_wp2
  go_loopw [8, 30] (fun dv i wr => ∃ (j : Nat) (D : Option Addr) (cu : Nat) (V : List Int), j ≤ R.length ∧ i = .int .i64 j ∧ dv = .slice D V.length cu ∧ Hid (Holds V (flI R j)) ∧ Hid (Own wr w3.heap.size D V.length cu V) ∧ Hid (Below w3.heap.size w3 wr)) (fun _ i _ => R.length - (intOf i).toNat)
  case atStart => exact ⟨0, none, 0, [], Nat.zero_le _, rfl, rfl, HO0, O1, B3⟩
  case round =>
    clear HO0 O1 B3
    obtain ⟨j, D, cu, V, hj, rfl, rfl, HV, HO1, hbw⟩ := hrel
    by_cases hlt : j < R.length
    case pos =>
      obtain ⟨ad, rfl, A6, cc, q5, hV⟩ := (HR.out.below hbw.out).at_ hlt
      obtain ⟨a, b, hrw, hab, hbm⟩ := HROW.out j hlt
      have hfl := HFN.out j hj
      have hdl := dcnt_le (flI R j)
      have HFL : Hid (flI R (j + 1) = flI R j ++ (R[j]?.getD [])) := Lib.hid rfl
      replace hV : Ints wr A6 (R[j]?.getD []).length (R[j]?.getD []) := hV
      replace q5 : wr.cell? (ad.add j) = some (.slice A6 (R[j]?.getD []).length cc) := q5
      generalize R[j]?.getD [] = r at *
      subst hrw
      generalize flI R j = fl at *
      obtain ⟨ad6, rfl, p0⟩ := hV.at_ (show 0 < [(a : Int), (b : Int)].length by simp)
      obtain ⟨ad6', e6, p1⟩ := hV.at_ (show 1 < [(a : Int), (b : Int)].length by simp)
      simp only [Option.some.injEq] at e6
      subst e6
      have p00 : wr.cell? ad6 = some (.int .i64 a) := by have := p0; simpa [Addr.add] using this
      have p11 : wr.cell? { block := ad6.block, off := ad6.off + 1, spot := none } = some (.int .i64 b) := by have := p1; simpa [Addr.add] using this
      replace q5 : wr.cell? (ad.add j) = some (.slice (some ad6) 2 cc) := q5
      have hz3 := hbw.out.size
      clear hV p0 p1
      go_wp2_with fail
      clear q5
      refine wp_region_held_drew (S := fun w' => w'.cell? ad6 = some (.int .i64 a) ∧ w'.cell? { block := ad6.block, off := ad6.off + 1, spot := none } = some (.int .i64 b)) (by kernel_rfl) (by exact ⟨p00, p11⟩) (fun hHeld => ?_)
      refine wpAnyH_takeD (i := 0) (d := 34) (v := ?_) rfl (by kernel_rfl) (by kernel_rfl) (by kernel_rfl) (by kernel_rfl) (fun _ _ _ h => h) (Or.inl ⟨by rfl, ?_⟩) (by assumption) ?_
      rotate_left
      · (intro w hSw; (try dsimp only at hSw); go_simp; try with_reducible rfl)
      simp only [Act.put, List.setIfInBounds_toArray, List.set_cons_zero, List.set_cons_succ]
      refine wpAnyH_takeD (i := 1) (d := 35) (v := ?_) rfl (by kernel_rfl) (by kernel_rfl) (by kernel_rfl) (by kernel_rfl) (fun _ _ _ h => h) (Or.inl ⟨by rfl, ?_⟩) (by assumption) ?_
      rotate_left
      · (intro w hSw; (try dsimp only at hSw); go_simp; try with_reducible rfl)
      simp only [Act.put, List.setIfInBounds_toArray, List.set_cons_zero, List.set_cons_succ]
      refine wpAnyH_takeD (i := 2) (d := 36) (v := ?_) rfl (by kernel_rfl) (by kernel_rfl) (by kernel_rfl) (by kernel_rfl) (fun _ _ _ h => h) (Or.inl ⟨by rfl, ?_⟩) (by assumption) ?_
      rotate_left
      · (intro w hSw; (try dsimp only at hSw); go_simp; try with_reducible rfl)
      simp only [Act.put, List.setIfInBounds_toArray, List.set_cons_zero, List.set_cons_succ]
      refine wpAnyH_takeD (i := 3) (d := 37) (v := ?_) rfl (by kernel_rfl) (by kernel_rfl) (by kernel_rfl) (by kernel_rfl) (fun _ _ _ h => h) (Or.inl ⟨by rfl, ?_⟩) (by assumption) ?_
      rotate_left
      · (intro w hSw; (try dsimp only at hSw); go_simp; try with_reducible rfl)
      simp only [Act.put, List.setIfInBounds_toArray, List.set_cons_zero, List.set_cons_succ]
      refine wpAnyH_takeD (i := 5) (d := 39) (v := ?_) rfl (by kernel_rfl) (by kernel_rfl) (by kernel_rfl) (by kernel_rfl) (fun _ _ _ h => h) (Or.inl ⟨by rfl, ?_⟩) (by assumption) ?_
      rotate_left
      · (intro w hSw; (try dsimp only at hSw); go_simp; try with_reducible rfl)
      simp only [Act.put, List.setIfInBounds_toArray, List.set_cons_zero, List.set_cons_succ]
      refine wpAnyH_takeD (i := 6) (d := 40) (v := ?_) rfl (by kernel_rfl) (by kernel_rfl) (by kernel_rfl) (by kernel_rfl) (fun _ _ _ h => h) (Or.inl ⟨by rfl, ?_⟩) (by assumption) ?_
      rotate_left
      · (intro w hSw; (try dsimp only at hSw); go_simp; try with_reducible rfl)
      simp only [Act.put, List.setIfInBounds_toArray, List.set_cons_zero, List.set_cons_succ]
      refine wpAnyH_takeD (i := 7) (d := 41) (v := ?_) rfl (by kernel_rfl) (by kernel_rfl) (by kernel_rfl) (by kernel_rfl) (fun _ _ _ h => h) (Or.inl ⟨by rfl, ?_⟩) (by assumption) ?_
      rotate_left
      · (intro w hSw; (try dsimp only at hSw); go_simp; try with_reducible rfl)
      simp only [Act.put, List.setIfInBounds_toArray, List.set_cons_zero, List.set_cons_succ]
      refine wpAnyH_ready (rs := [4]) (by kernel_rfl) (by simp) ?_
      refine AllReadyH.cons rfl (fun K hK => ?_) AllReadyH.nil
      go_simp
      (go_at_call 51; refine (l1Put_any D w3.heap.size _ cu (a : Int) V _ (by exact HO1.out) (by have := HV.out.n; omega) (by exact hz3)).mono ?_; rintro e w5 ⟨D2, c2, V2, rfl, o2, hp2, b2'⟩; have b2 : Below wr.heap.size wr w5 := Below.trans (below_drewN (Below.refl _ _) 1) b2'; have O2 := Lib.hid o2; have HV2 := Lib.hid (HV.out.put hp2); have z2 := b2.size; have hdl2 := dcnt_le (fl ++ [(a : Int)]); have hll2 : (fl ++ [(a : Int)]).length = fl.length + 1 := (by simp); have ep00 := (b2.cell (block_lt_of_cell p00)).trans p00; have ep11 := (b2.cell (block_lt_of_cell p11)).trans p11)
      go_wp2_with fail
      refine hK.out _ _ ?_ (fun hHeld => ?_)
      · exact ⟨ep00, ep11⟩
      clear hK K
      try simp only [Act.put, List.setIfInBounds_toArray, List.set_cons_zero, List.set_cons_succ]
      refine wpAnyH_ready (rs := [8]) (by kernel_rfl) (by simp) ?_
      refine AllReadyH.cons rfl (fun K hK => ?_) AllReadyH.nil
      go_simp
      (go_at_call 51; refine (l1Put_any D2 w3.heap.size _ c2 (b : Int) V2 _ O2.out (by have := HV2.out.n; omega) (by omega)).mono ?_; rintro e w6 ⟨D3, c3, V3, rfl, o3, hp3, b3'⟩; have O3 := Lib.hid o3; have HV3 := Lib.hid (HV2.out.put hp3); have fp00 := (b3'.cell (block_lt_of_cell ep00)).trans ep00; have fp11 := (b3'.cell (block_lt_of_cell ep11)).trans ep11)
      go_wp2_with fail
      refine hK.out _ _ ?_ (fun hHeld => ?_)
      · exact ⟨fp00, fp11⟩
      clear hK K
      try simp only [Act.put, List.setIfInBounds_toArray, List.set_cons_zero, List.set_cons_succ]
      refine wpAnyH_takeD (i := 9) (d := 8) (v := ?_) rfl (by kernel_rfl) (by kernel_rfl) (by kernel_rfl) (by kernel_rfl) (fun _ _ _ h => h) (Or.inl ⟨by rfl, ?_⟩) (by assumption) ?_
      rotate_left
      · (intro w hSw; (try dsimp only at hSw); go_simp; try with_reducible rfl)
      simp only [Act.put, List.setIfInBounds_toArray, List.set_cons_zero, List.set_cons_succ]
      refine wpAnyH_done (by kernel_rfl) ?_ _
      have HB6 := Lib.hid (hbw.out.trans ((b2.trans (b3'.mono b2.size)).mono hbw.out.size))
      have HV4 : Hid (Holds V3 (flI R (j + 1))) := Lib.hid (by rw [HFL.out]; have h := HV3.out; rwa [List.append_assoc] at h)
      clear p00 p11 ep00 ep11 fp00 fp11 b2 b2' b3' o2 o3 O2 HV HV2 HV3 HO1 hbw
      go_wp2
      go_roundw
      case rel => exact ⟨j + 1, D3, c3, V3, by omega, by go_num, rfl, HV4, O3, HB6⟩
      case measure => simp [intOf]; omega
    case neg =>
      obtain rfl : j = R.length := by omega
      have hfl := HFN.out R.length (Nat.le_refl _)
      have hdl := dcnt_le (flI R R.length)
      replace X := Lib.hid (box_below X.out hbw.out)
      replace HB := Lib.hid (HB.out.trans (hbw.out.mono HB.out.size))
      rw [← HV.out.n] at HSR
      have hN0 : V.length ≤ 40 := by have := HV.out.n; omega
      clear hfl hdl HV HO1 hbw
      generalize V.length = N at *
      go_wp2_with fail
      refine (fMake_any N m _ (by omega) (by omega) (by omega) (by omega)).mono ?_
      rintro e w9 ⟨rfl, b9⟩
      replace X := Lib.hid (box_below X.out b9)
      replace HB := Lib.hid (HB.out.trans (b9.mono HB.out.size))
      clear b9
      have px := X.out
      have lx := lt_of_block px
      have p0 := box_cell px 0 _ rfl
      have p1 := box_cell px 1 _ rfl
      have g0 := box_free px 0
      have g1 := box_free px 1
      have HOE := Lib.hid (HSR.out.symm.trans HO.out)
      rw [HOE.out]
      have rx := box_set (box_set px 0 (.int .i64 (fN O))) 1 (.int .i64 (fD O))
      have r0 := box_cell rx 0 (.int .i64 (fN O)) rfl
      have r1 := box_cell rx 1 (.int .i64 (fD O)) rfl
      have FB := Lib.hid ((HB.out.setCell (p := ⟨w.heap.size, 0, none⟩) (Nat.le_refl _) (.int .i64 (fN O))).setCell (p := ⟨w.heap.size, 1, none⟩) (Nat.le_refl _) (.int .i64 (fD O)))
      clear px rx X HB
      go_wp2
      exact bodyPost_ret (v := .tuple #[.agg #[.int .i64 (fN O), .int .i64 (fD O)], .bool (fB O)]) (by simp [results, Tryz.results18, go_sem, r0, r1]) rfl ⟨rfl, FB.out⟩
end Go.Proofs.YtahbcnclhohnaaaGreat
