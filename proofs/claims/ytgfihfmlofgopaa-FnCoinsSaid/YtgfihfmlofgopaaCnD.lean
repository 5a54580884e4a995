/- CoinChances of the reference; printed by gcd.py. -/
import Derived.Test.YtgfihfmlofgopaaCnI
import Derived.Test.YtgfihfmlofgopaaAppG
import Derived.Test.YtgfihfmlofgopaaCut
import Derived.Deep.RegionHeld3
import Derived.Deep.DeepCutAuto
namespace Go.Proofs.Ytgfihfmlofgopaa
open Go.RowKit

theorem redO_smF (n d : Int) : sm (fN (redO n d)) ∧ sm (fD (redO n d)) := by
  cases h : redO n d with
  | none => exact ⟨sm_of (by show -1000000000 ≤ (0 : Int); omega) (by show (0 : Int) ≤ 1000000000; omega), sm_of (by show -1000000000 ≤ (0 : Int); omega) (by show (0 : Int) ≤ 1000000000; omega)⟩
  | some r =>
    obtain ⟨p, q⟩ := r
    obtain ⟨h1, h2, _⟩ := fracB_sm (redO_frac h)
    exact ⟨h1, h2⟩
theorem redO_00 (x y : Int) : redO (0 * x) (0 * y) = none := by rw [Int.zero_mul, Int.zero_mul]; unfold redO; rw [if_pos rfl]
theorem row_mono2 {w : World} {n : Nat} {lo : Nat} {T : TypeId} {sz : Nat} {v : Value} {ys : List Value} {lo' : Nat} (h : w.ownsRow lo T sz v n ys) (hl : lo' ≤ lo) : w.ownsRow lo' T sz v n ys := ⟨h.1, by
  rcases h.2 with h0 | ⟨g, cap, cur, hv, hb, hr⟩
  · exact .inl h0
  · exact .inr ⟨g, cap, cur, hv, by omega, hr⟩⟩
theorem row_geF {w : World} {B n c sz : Nat} {T : TypeId} {A : Option Addr} {ys : List Value} (h : w.ownsRow B T sz (.slice A n c) n ys) : ∀ k, rowOf A = some k → B ≤ k ∧ k < w.heap.size := fun k hk =>
  World.ownsRow.lt h k (by rw [ownBlock_row]; exact hk)

theorem kChoose_b (n i : Nat) (w : World) (hn : n ≤ 8) (hi : i ≤ n) :
    Calls Try.prog 54 #[.int .i64 n, .int .i64 i] w fun e w' => e = .returned (.int .i64 (chv n i : Nat)) ∧ Below w.heap.size w w' := by
  refine (kChoose_any n i w hn hi).mono ?_
  rintro e w' ⟨h1, h2⟩
  subst h2
  exact ⟨h1, Below.refl _ _⟩

set_option maxRecDepth 100000 in
set_option maxHeartbeats 4000000 in
theorem specCoinChances_any (a b n : Int) (w : World) :
    Calls Try.prog 16 #[.agg #[.int .i64 a, .int .i64 b], .int .i64 n] w (RetFs w (ccV a b n)) := by
  have b0 := below_new w (.cells #[.int .i64 a, .int .i64 b] 27)
  have x0 := box_new w #[.int .i64 a, .int .i64 b] 27
  cases hc : chanceB a b 1
  · have R := Lib.hid (ccV_1 (n := n) hc)
    rw [R.out]
    have HC := Lib.hid hc
    clear hc
    go_enter Try.func16, Try.ntmps16
    go_wp2_with fail
    generalize w.alloc (.cells #[.int .i64 a, .int .i64 b] 27) = w0 at *
    refine (kUnit_any _ _ _ _ sm_one).mono ?_
    rintro e w1 ⟨rfl, b1⟩
    rw [HC.out]
    have B1 := Lib.hid (b0.trans (b1.mono b0.size))
    clear b0 b1 x0
    go_wp2
    go_ret2
    exact ⟨none, 0, rfl, FracsR.nil_, B1.out⟩
  have HC := Lib.hid hc
  cases h1 : inR n 0 8
  · have R := Lib.hid (ccV_2 (a := a) (b := b) h1)
    rw [R.out]
    have H1 := Lib.hid h1
    clear hc h1
    go_enter Try.func16, Try.ntmps16
    go_wp2_with fail
    generalize w.alloc (.cells #[.int .i64 a, .int .i64 b] 27) = w0 at *
    refine (kUnit_any _ _ _ _ sm_one).mono ?_
    rintro e w1 ⟨rfl, b1⟩
    rw [HC.out]
    have B1 := Lib.hid (b0.trans (b1.mono b0.size))
    clear b0 b1 x0
    go_wp2_with fail
    refine (l1In_any _ _ _ _).mono ?_
    rintro e w2 ⟨rfl, rfl⟩
    rw [H1.out]
    go_wp2
    go_ret2
    exact ⟨none, 0, rfl, FracsR.nil_, B1.out⟩
  have H1 := Lib.hid h1
  have hin := inR_of h1
  obtain ⟨N, rfl⟩ := Int.eq_ofNat_of_zero_le hin.1
  have hN : N ≤ 8 := by omega
  rw [ccV_3 hc hN]
  obtain ⟨CV, hCV⟩ : ∃ X, lsO a b N (N + 1) = X := ⟨_, rfl⟩
  have HCV := Lib.hid hCV
  rw [hCV]
  clear hCV
  obtain ⟨hf, ha0, hab'⟩ := chanceB_of hc
  have hab : a ≤ b := by omega
  clear hab'
  obtain ⟨hsa, hsb, _⟩ := fracB_sm hf
  have HF := Lib.hid hf
  have HG := Lib.hid (rest_frac hf ha0 hab)
  have HRE := Lib.hid (show redO (b - a) b = some (b - a, b) by simpa using rest_eq hf ha0 hab)
  clear hc h1 hf hin
  obtain ⟨i0, hi, hz0, hz1, hz2⟩ := info_parts Try.infoFrac
  go_enter Try.func16, Try.ntmps16
  go_wp2_with fail
  generalize w.alloc (.cells #[.int .i64 a, .int .i64 b] 27) = w0 at *
  refine (kUnit_any _ _ _ _ sm_one).mono ?_
  rintro e w1 ⟨rfl, b1⟩
  rw [HC.out]
  have x1 := box_below x0 b1
  have B1 := b0.trans (b1.mono b0.size)
  clear x0 b0 b1
  go_wp2_with fail
  refine (l1In_any _ _ _ _).mono ?_
  rintro e w2 ⟨rfl, rfl⟩
  rw [H1.out]
  have x1c0 := box_cell x1 0 _ rfl
  have x1c1 := box_cell x1 1 _ rfl
  have x1l := lt_of_block x1
  go_wp2
  clear x1c0 x1c1 x1l
  go_cut [6, 7] (fun v6 v7 wx => ∃ gp, v6 = .pointer (some ⟨gp, 0, none⟩) ∧ v7 = .bool (fB (redO (b - a) b)) ∧ wx.heap[gp]? = some (.cells #[.int .i64 (fN (redO (b - a) b)), .int .i64 (fD (redO (b - a) b))] 27 (0, 0)) ∧ w1.heap.size ≤ gp ∧ Below w1.heap.size w1 wx)
  case first =>
    have B90 := (Below.refl w1.heap.size w1).drew
    have x1k90 : w1.drew.heap[w.heap.size]? = _ := x1
    have ltx1 := lt_of_block x1
    go_region_held3 (fun w' => w'.cell? ⟨w.heap.size, 0, none⟩ = some (.int .i64 a) ∧ w'.cell? ⟨w.heap.size, 1, none⟩ = some (.int .i64 b)) (first | exact ⟨x1c092, x1c192⟩ | exact ⟨x1c091, x1c191⟩ | exact ⟨box_cell x1k90 0 _ rfl, box_cell x1k90 1 _ rfl⟩ | exact ⟨cell_new (box_cell x1k90 0 _ rfl), cell_new (box_cell x1k90 1 _ rfl)⟩ | exact ⟨cell_two x1c092 (by omega), cell_two x1c192 (by omega)⟩ | exact ⟨cell_new x1c092, cell_new x1c192⟩ | go_keep) (first
          | (go_at_call 51; refine (fInt_any _ _).mono ?_; rintro e w91 ⟨rfl, b91⟩; (first | (have B91 := keepB B90 (Nat.le_refl _) b91; have x1k91 := box_below x1k90 b91; (first | (have G91 := box_below G90.1 b91; have G91 := And.intro G91 G90.2) | skip)) | (have b91 : Below (w1.drew.alloc (.cells #[.int .i64 0, .int .i64 0] 27)).heap.size (w1.drew.alloc (.cells #[.int .i64 0, .int .i64 0] 27)) w91 := b91; have B91 := keepBN B90 (Nat.le_refl _) b91; have x1k91 := keepN x1k90 b91; have G91 : w91.heap[w1.heap.size]? = _ ∧ w1.heap.size ≤ w1.heap.size := newAt (a := World.drew w1) B90 (Nat.le_refl _) b91)); have x1c091 := box_cell x1k91 0 _ rfl; have x1c191 := box_cell x1k91 1 _ rfl; (first | (have l91 := G91.2; have d0 := box_cell G91.1 0 _ rfl; have d1 := box_cell G91.1 1 _ rfl; have f0 := box_free G91.1 0; have f1 := box_free G91.1 1) | skip))
          | (go_at_call 50; refine (fSub_any _ _ _ _ _ sm_one sm_one hsa hsb).mono ?_; rintro e w92 ⟨rfl, b92⟩; (first | (have B92 := keepB B91 (Nat.le_refl _) b92; have x1k92 := box_below x1k91 b92; (first | (have G92 := box_below G91.1 b92; have G92 := And.intro G92 G91.2) | skip)) | (have B92 := keepBN B91 (Nat.le_refl _) b92; have x1k92 := keepN x1k91 b92; have G92 := newAt B91 (Nat.le_refl _) b92)); have x1c092 := box_cell x1k92 0 _ rfl; have x1c192 := box_cell x1k92 1 _ rfl; (first | (have l92 := G92.2; have d0 := box_cell G92.1 0 _ rfl; have d1 := box_cell G92.1 1 _ rfl; have f0 := box_free G92.1 0; have f1 := box_free G92.1 1) | skip)))
    all_goals (go_wp2_with fail; go_meet; first | exact ⟨_, rfl, rfl, store_two G92.1 _ _, G92.2, below_two B92 G92.2⟩ | exact ⟨_, rfl, rfl, box_new _ _ _, B92.size, keepB B92 (Nat.le_refl _) (below_new _ _)⟩)
  case rest =>
    obtain ⟨gq, rfl, rfl, xq, hgq, bc⟩ := hcut
    rw [HRE.out] at xq
    simp only [HRE.out, fB]
    generalize wc = w2 at *
    replace xq : w2.heap[gq]? = some (.cells #[.int .i64 (b - a), .int .i64 b] 27 (0, 0)) := xq
    have X0 := Lib.hid (box_below x1 bc)
    have XQ := Lib.hid xq
    have HB := Lib.hid (B1.trans (bc.mono B1.size))
    have lq0 := lt_of_block x1
    have hs12 := bc.size
    clear x1 xq bc B1
    go_wp2_with fail
    go_loopw [8, 9] (fun o i wr => ∃ (j : Nat) (L : List (Int × Int)) (D : Option Addr) (cd : Nat), j ≤ N + 1 ∧ i = .int .i64 j ∧ o = .slice D j cd ∧ Hid (lsO a b N j = some L) ∧ Hid (wr.heap[w.heap.size]? = some (.cells #[.int .i64 a, .int .i64 b] 27 (0, 0))) ∧ Hid (wr.heap[gq]? = some (.cells #[.int .i64 (b - a), .int .i64 b] 27 (0, 0))) ∧ Hid (wr.ownsRow w2.heap.size 27 2 (.slice D j cd) j (fcells L)) ∧ Hid (w2.heap.size ≤ wr.heap.size) ∧ Hid (Below w.heap.size w wr)) (fun _ i _ => N + 1 - (intOf i).toNat)
    case atStart => exact ⟨0, [], none, 0, Nat.zero_le _, rfl, rfl, Lib.hid rfl, X0, XQ, Lib.hid (World.ownsRow_nil _ _ _ _), Lib.hid (Nat.le_refl _), HB⟩
    case round =>
      have lgq2 := lt_of_block XQ.out
      clear X0 XQ HB
      obtain ⟨j, L, D, cd, hj, rfl, rfl, HL, X0, XQ, HO, H2, HB⟩ := hrel
      obtain ⟨w3', rfl⟩ : ∃ w3' : World, w3' = wr := ⟨_, rfl⟩
      have hLl := lsO_len HL.out
      have h2r := H2.out
      by_cases hlt : j < N + 1
      · have hjN : j ≤ N := by omega
        have lX0 := lt_of_block X0.out
        have X0c0 := box_cell X0.out 0 _ rfl
        have X0c1 := box_cell X0.out 1 _ rfl
        go_wp2_with fail
        refine (fPow_any a b j _ HF.out (by omega)).mono ?_
        rintro e w5 ⟨rfl, b5⟩
        clear X0c0 X0c1 lX0
        replace X0 := Lib.hid (box_below X0.out b5)
        replace XQ := Lib.hid (box_below XQ.out b5)
        replace HO := Lib.hid (row_below HO.out b5)
        have HB5 := Lib.hid (HB.out.trans (b5.mono HB.out.size))
        have s5 := b5.size
        clear b5 HB
        have b6 := below_new w5 (.cells #[.int .i64 (fN (powO a b j)), .int .i64 (fD (powO a b j))] 27)
        have xXA := box_new w5 #[.int .i64 (fN (powO a b j)), .int .i64 (fD (powO a b j))] 27
        replace X0 := Lib.hid (box_below X0.out b6)
        replace XQ := Lib.hid (box_below XQ.out b6)
        have XA := Lib.hid xXA
        replace HO := Lib.hid (row_below HO.out b6)
        have HB6 := Lib.hid (HB5.out.trans (b6.mono HB5.out.size))
        have s6 := b6.size
        clear b6 xXA HB5
        have lXQ := lt_of_block XQ.out
        have XQc0 := box_cell XQ.out 0 _ rfl
        have XQc1 := box_cell XQ.out 1 _ rfl
        go_wp2_with fail
        generalize w5.alloc (.cells #[.int .i64 (fN (powO a b j)), .int .i64 (fD (powO a b j))] 27) = w6 at *
        have K7 := fPow_any (b - a) b (N - j) w6 HG.out (by omega)
        rw [show ((N - j : Nat) : Int) = (N : Int) - (j : Int) by omega] at K7
        refine K7.mono ?_
        clear K7
        rintro e w7 ⟨rfl, b7⟩
        clear XQc0 XQc1 lXQ
        replace X0 := Lib.hid (box_below X0.out b7)
        replace XQ := Lib.hid (box_below XQ.out b7)
        replace XA := Lib.hid (box_below XA.out b7)
        replace HO := Lib.hid (row_below HO.out b7)
        have HB7 := Lib.hid (HB6.out.trans (b7.mono HB6.out.size))
        have s7 := b7.size
        clear b7 HB6
        cases hA : powO a b j with
        | none =>
          have HR := Lib.hid (lsO_no (n := N) (k := N + 1) (elO_1 hA) (by omega))
          obtain rfl : CV = none := HCV.out.symm.trans HR.out
          clear HO
          cases hB : powO (b - a) b (N - j) with
          | none =>
            have B9 := Lib.hid (HB7.out.alloc HB7.out.size (.cells #[.int .i64 0, .int .i64 0] 27))
            clear HB7 hA hB
            simp only [fN, fD, fB]
            go_wp2
            go_ret2
            exact ⟨none, 0, rfl, FracsR.nil_, B9.out⟩
          | some rB =>
            have B9 := Lib.hid (HB7.out.alloc HB7.out.size (.cells #[.int .i64 rB.1, .int .i64 rB.2] 27))
            clear HB7 hA hB
            simp only [fN, fD, fB]
            go_wp2
            go_ret2
            exact ⟨none, 0, rfl, FracsR.nil_, B9.out⟩
        | some rA =>
          obtain ⟨p, q⟩ := rA
          have HPA := Lib.hid (powO_frac hA)
          have HAA := Lib.hid hA
          rw [hA] at XA
          replace XA : Hid (w7.heap[w5.heap.size]? = some (.cells #[.int .i64 p, .int .i64 q] 27 (0, 0))) := XA
          cases hB : powO (b - a) b (N - j) with
          | none =>
            have HR := Lib.hid (lsO_no (n := N) (k := N + 1) (elO_2 hA hB) (by omega))
            obtain rfl : CV = none := HCV.out.symm.trans HR.out
            have B9 := Lib.hid (HB7.out.alloc HB7.out.size (.cells #[.int .i64 0, .int .i64 0] 27))
            clear HO HB7
            simp only [fN, fD, fB]
            go_wp2
            go_ret2
            exact ⟨none, 0, rfl, FracsR.nil_, B9.out⟩
          | some rB =>
            obtain ⟨p', q'⟩ := rB
            have HPB := Lib.hid (powO_frac hB)
            have HBB := Lib.hid hB
            clear hA hB
            obtain ⟨hsp, hsq, _⟩ := fracB_sm HPA.out
            obtain ⟨hsp', hsq', _⟩ := fracB_sm HPB.out
            simp only [fN, fD, fB]
            have b8 := below_new w7 (.cells #[.int .i64 p', .int .i64 q'] 27)
            have xXB := box_new w7 #[.int .i64 p', .int .i64 q'] 27
            replace X0 := Lib.hid (box_below X0.out b8)
            replace XQ := Lib.hid (box_below XQ.out b8)
            replace XA := Lib.hid (box_below XA.out b8)
            have XB := Lib.hid xXB
            replace HO := Lib.hid (row_below HO.out b8)
            have HB8 := Lib.hid (HB7.out.trans (b8.mono HB7.out.size))
            have s8 := b8.size
            clear b8 xXB HB7
            have lXA := lt_of_block XA.out
            have XAc0 := box_cell XA.out 0 _ rfl
            have XAc1 := box_cell XA.out 1 _ rfl
            have lXB := lt_of_block XB.out
            have XBc0 := box_cell XB.out 0 _ rfl
            have XBc1 := box_cell XB.out 1 _ rfl
            go_wp2_with fail
            generalize w7.alloc (.cells #[.int .i64 p', .int .i64 q'] 27) = w8 at *
            refine (fMul_o p q p' q' _ hsp hsq hsp' hsq').mono ?_
            rintro e w9 ⟨rfl, b9⟩
            clear XAc0 XAc1 lXA XBc0 XBc1 lXB
            replace X0 := Lib.hid (box_below X0.out b9)
            replace XQ := Lib.hid (box_below XQ.out b9)
            replace XA := Lib.hid (box_below XA.out b9)
            replace XB := Lib.hid (box_below XB.out b9)
            replace HO := Lib.hid (row_below HO.out b9)
            have HB9 := Lib.hid (HB8.out.trans (b9.mono HB8.out.size))
            have s9 := b9.size
            clear b9 HB8
            have HM := Lib.hid (show mulO p q p' q' = mulO p q p' q' from rfl)
            obtain ⟨M, hM⟩ : ∃ M, mulO p q p' q' = M := ⟨_, rfl⟩
            have HMM := Lib.hid hM
            rw [hM]
            have hsm : sm (fN M) ∧ sm (fD M) := by rw [← hM]; exact redO_smF _ _
            clear hM HM
            obtain ⟨hsm1, hsm2⟩ := hsm
            have hcb := chv_bd N (by omega) j (by omega)
            have hsc : sm ((chv N j : Nat) : Int) := sm_of (by omega) (by omega)
            have b10 := below_new w9 (.cells #[.int .i64 (fN M), .int .i64 (fD M)] 27)
            have xXC := box_new w9 #[.int .i64 (fN M), .int .i64 (fD M)] 27
            replace X0 := Lib.hid (box_below X0.out b10)
            replace XQ := Lib.hid (box_below XQ.out b10)
            replace XA := Lib.hid (box_below XA.out b10)
            replace XB := Lib.hid (box_below XB.out b10)
            have XC := Lib.hid xXC
            replace HO := Lib.hid (row_below HO.out b10)
            have HB10 := Lib.hid (HB9.out.trans (b10.mono HB9.out.size))
            have s10 := b10.size
            clear b10 xXC HB9
            have lXC := lt_of_block XC.out
            have XCc0 := box_cell XC.out 0 _ rfl
            have XCc1 := box_cell XC.out 1 _ rfl
            go_wp2_with fail
            clear XCc0 XCc1 lXC
            generalize w9.alloc (.cells #[.int .i64 (fN M), .int .i64 (fD M)] 27) = w10 at *
            have xC := XC.out
            go_cut [16, 17] (fun v16 v17 wx => ∃ gp, v16 = .pointer (some ⟨gp, 0, none⟩) ∧ v17 = .bool (fB (redO (fN M * ((chv N j : Nat) : Int)) (fD M))) ∧ wx.heap[gp]? = some (.cells #[.int .i64 (fN (redO (fN M * ((chv N j : Nat) : Int)) (fD M))), .int .i64 (fD (redO (fN M * ((chv N j : Nat) : Int)) (fD M)))] 27 (0, 0)) ∧ w10.heap.size ≤ gp ∧ Below w10.heap.size w10 wx)
            case first =>
              have B90 := (Below.refl w10.heap.size w10).drew
              have xCk90 : w10.drew.heap[w9.heap.size]? = _ := xC
              have ltxC := lt_of_block xC
              go_region_held3 (fun w' => w'.cell? ⟨w9.heap.size, 0, none⟩ = some (.int .i64 (fN M)) ∧ w'.cell? ⟨w9.heap.size, 1, none⟩ = some (.int .i64 (fD M))) (first | exact ⟨xCc093, xCc193⟩ | exact ⟨xCc092, xCc192⟩ | exact ⟨xCc091, xCc191⟩ | exact ⟨box_cell xCk90 0 _ rfl, box_cell xCk90 1 _ rfl⟩ | exact ⟨cell_new (box_cell xCk90 0 _ rfl), cell_new (box_cell xCk90 1 _ rfl)⟩ | exact ⟨cell_two xCc093 (by omega), cell_two xCc193 (by omega)⟩ | exact ⟨cell_new xCc093, cell_new xCc193⟩ | go_keep) (first
                    | (go_at_call 54; refine (kChoose_b N j _ hN hjN).mono ?_; rintro e w91 ⟨rfl, b91⟩; (first | (have B91 := keepB B90 (Nat.le_refl _) b91; have xCk91 := box_below xCk90 b91; (first | (have G91 := box_below G90.1 b91; have G91 := And.intro G91 G90.2) | skip)) | (have b91 : Below (w10.drew.alloc (.cells #[.int .i64 0, .int .i64 0] 27)).heap.size (w10.drew.alloc (.cells #[.int .i64 0, .int .i64 0] 27)) w91 := b91; have B91 := keepBN B90 (Nat.le_refl _) b91; have xCk91 := keepN xCk90 b91; have G91 : w91.heap[w10.heap.size]? = _ ∧ w10.heap.size ≤ w10.heap.size := newAt (a := World.drew w10) B90 (Nat.le_refl _) b91)); have xCc091 := box_cell xCk91 0 _ rfl; have xCc191 := box_cell xCk91 1 _ rfl; (first | (have l91 := G91.2; have d0 := box_cell G91.1 0 _ rfl; have d1 := box_cell G91.1 1 _ rfl; have f0 := box_free G91.1 0; have f1 := box_free G91.1 1) | skip))
                    | (go_at_call 51; refine (fInt_any _ _).mono ?_; rintro e w92 ⟨rfl, b92⟩; (first | (have B92 := keepB B91 (Nat.le_refl _) b92; have xCk92 := box_below xCk91 b92; (first | (have G92 := box_below G91.1 b92; have G92 := And.intro G92 G91.2) | skip)) | (have B92 := keepBN B91 (Nat.le_refl _) b92; have xCk92 := keepN xCk91 b92; have G92 := newAt B91 (Nat.le_refl _) b92)); have xCc092 := box_cell xCk92 0 _ rfl; have xCc192 := box_cell xCk92 1 _ rfl; (first | (have l92 := G92.2; have d0 := box_cell G92.1 0 _ rfl; have d1 := box_cell G92.1 1 _ rfl; have f0 := box_free G92.1 0; have f1 := box_free G92.1 1) | skip))
                    | (go_at_call 53; refine (fMul_any _ _ _ _ _ hsm1 hsm2 hsc sm_one).mono ?_; rintro e w93 ⟨rfl, b93⟩; (first | (have B93 := keepB B92 (Nat.le_refl _) b93; have xCk93 := box_below xCk92 b93; (first | (have G93 := box_below G92.1 b93; have G93 := And.intro G93 G92.2) | skip)) | (have B93 := keepBN B92 (Nat.le_refl _) b93; have xCk93 := keepN xCk92 b93; have G93 := newAt B92 (Nat.le_refl _) b93)); have xCc093 := box_cell xCk93 0 _ rfl; have xCc193 := box_cell xCk93 1 _ rfl; (first | (have l93 := G93.2; have d0 := box_cell G93.1 0 _ rfl; have d1 := box_cell G93.1 1 _ rfl; have f0 := box_free G93.1 0; have f1 := box_free G93.1 1) | skip)))
              all_goals (go_wp2_with fail; go_meet; first | exact ⟨_, rfl, rfl, store_two G93.1 _ _, G93.2, below_two B93 G93.2⟩ | exact ⟨_, rfl, rfl, box_new _ _ _, B93.size, keepB B93 (Nat.le_refl _) (below_new _ _)⟩)
            case rest =>
              obtain ⟨gy, rfl, rfl, xy, hgy, bc⟩ := hcut
              generalize wc = w11 at *
              replace X0 := Lib.hid (box_below X0.out bc)
              replace XQ := Lib.hid (box_below XQ.out bc)
              replace XA := Lib.hid (box_below XA.out bc)
              replace XB := Lib.hid (box_below XB.out bc)
              replace XC := Lib.hid (box_below XC.out bc)
              replace HO := Lib.hid (row_below HO.out bc)
              have HB11 := Lib.hid (HB10.out.trans (bc.mono HB10.out.size))
              have s11 := bc.size
              clear bc HB10
              clear xC
              cases M with
              | none =>
                have HR := Lib.hid (lsO_no (n := N) (k := N + 1) (elO_3 HAA.out HBB.out HMM.out) (by omega))
                obtain rfl : CV = none := HCV.out.symm.trans HR.out
                have B9 := HB11
                clear HO HB11
                simp only [fN, fD, fB]
                go_wp2
                go_ret2
                exact ⟨none, 0, rfl, FracsR.nil_, B9.out⟩
              | some rC =>
                obtain ⟨r, s⟩ := rC
                have HEL := Lib.hid (elO_4 HAA.out HBB.out HMM.out)
                cases hE : mulO r s ((chv N j : Nat) : Int) 1 with
                | none =>
                  have HR := Lib.hid (lsO_no (n := N) (k := N + 1) (HEL.out.trans hE) (by omega))
                  obtain rfl : CV = none := HCV.out.symm.trans HR.out
                  have hE1 : redO (r * ((chv N j : Nat) : Int)) s = none := by rw [← hE]; show _ = redO (r * _) (s * 1); rw [Int.mul_one]
                  have HE0 := Lib.hid (show redO (fN (some (r, s)) * ((chv N j : Nat) : Int)) (fD (some (r, s))) = none from hE1)
                  have B9 := HB11
                  clear HO HB11 hE hE1
                  rw [HE0.out]
                  simp only [fB]
                  go_wp2
                  go_ret2
                  exact ⟨none, 0, rfl, FracsR.nil_, B9.out⟩
                | some rD =>
                  obtain ⟨y, z⟩ := rD
                  have hE1 : redO (r * ((chv N j : Nat) : Int)) s = some (y, z) := by rw [← hE]; show _ = redO (r * _) (s * 1); rw [Int.mul_one]
                  have HLN := Lib.hid (lsO_step HL.out (HEL.out.trans hE))
                  have HE0 := Lib.hid (show redO (fN (some (r, s)) * ((chv N j : Nat) : Int)) (fD (some (r, s))) = some (y, z) from hE1)
                  rw [HE0.out] at xy
                  rw [HE0.out]
                  simp only [fB]
                  replace xy : w11.heap[gy]? = some (.cells #[.int .i64 y, .int .i64 z] 27 (0, 0)) := xy
                  have yc0 := box_cell xy 0 _ rfl
                  have yc1 := box_cell xy 1 _ rfl
                  have ly := lt_of_block xy
                  have hoA := HO.out
                  have HRG := Lib.hid (fun q hq => (row_geF hoA q hq).1)
                  have hs11 : w2.heap.size ≤ w11.heap.size := by omega
                  clear HO hE hE1
                  go_wp2_with (at_builtin; refine wp_appG (cs := #[.int .i64 y, .int .i64 z]) rfl _ _ rfl Try.underlying39 hi hz0 hz1 hz2 rfl (by omega) (by omega) rfl (by simp [Value.oneCell']) w2.heap.size D j cd _ rfl hoA _ rfl (by simp) (by omega) hs11 ?_; intro D6 c6 w12 own6 grow6 _)
                  have hg6 := grow6.size
                  have HB12 := Lib.hid (HB11.out.grown grow6 HB11.out.size (fun q hq => by have := HRG.out q hq; have := HB11.out.size; omega))
                  have X09 := Lib.hid ((grow6.block _ (lt_of_block X0.out) (fun e => by have := HRG.out _ e.symm; omega)).trans X0.out)
                  have XQ9 := Lib.hid ((grow6.block _ (lt_of_block XQ.out) (fun e => by have := HRG.out _ e.symm; omega)).trans XQ.out)
                  have HO9 := Lib.hid (show w12.ownsRow w2.heap.size 27 2 (.slice D6 (j + 1) c6) (j + 1) (fcells (L ++ [(y, z)])) by rw [fcells_snoc]; exact own6)
                  have H29 := Lib.hid (show w2.heap.size ≤ w12.heap.size by omega)
                  clear own6 grow6 hoA X0 XQ XA XB XC xy HB11
                  go_roundw
                  case rel => exact ⟨j + 1, L ++ [(y, z)], D6, c6, by omega, by go_num, rfl, HLN, X09, XQ9, HO9, H29, HB12⟩
                  case measure => simp [intOf]; omega
      · obtain rfl : j = N + 1 := by omega
        have HFR := Lib.hid (fracs_read HO.out)
        have HLl := Lib.hid hLl
        obtain rfl : CV = some L := HCV.out.symm.trans HL.out
        clear HO
        go_wp2
        go_ret2
        exact ⟨D, cd, congrArg (fun q => Ending.returned (.tuple #[.slice D q cd, .bool true])) HLl.out.symm, by show FracsR _ _ L.length L; rw [HLl.out]; exact HFR.out, HB.out⟩
end Go.Proofs.Ytgfihfmlofgopaa
