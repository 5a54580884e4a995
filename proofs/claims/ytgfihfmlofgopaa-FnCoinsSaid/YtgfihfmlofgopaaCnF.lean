/- ExpBounds of the reference; printed by gex.py. -/
import Derived.Test.YtgfihfmlofgopaaCnE
import Derived.Test.YtgfihfmlofgopaaCut
import Derived.Deep.RegionHeld3
import Derived.Deep.DeepCutAuto
namespace Go.Proofs.Ytgfihfmlofgopaa
open Go.RowKit

theorem sm_zero : sm 0 := by unfold sm; decide
theorem divO_00 (x : Int) (h : 1 ≤ x) : divO 0 0 x 1 = none := by
  rw [divO_yes (by omega), Int.zero_mul, Int.zero_mul]
  unfold redO
  rw [if_pos rfl]
theorem redO_smE (n d : Int) : sm (fN (redO n d)) ∧ sm (fD (redO n d)) := by
  cases h : redO n d with
  | none => exact ⟨sm_zero, sm_zero⟩
  | some r =>
    obtain ⟨p, q⟩ := r
    obtain ⟨h1, h2, _⟩ := fracB_sm (redO_frac h)
    exact ⟨h1, h2⟩
theorem fAdd_o (n d p q : Int) (w : World) (hn : sm n) (hd : sm d) (hp : sm p) (hq : sm q) :
    Calls Try.prog 58 #[.agg #[.int .i64 n, .int .i64 d], .agg #[.int .i64 p, .int .i64 q]] w fun e w' => e = .returned (.tuple #[.agg #[.int .i64 (fN (addO n d p q)), .int .i64 (fD (addO n d p q))], .bool (fB (addO n d p q))]) ∧ Below w.heap.size w w' := fAdd_any n d p q w hn hd hp hq

set_option maxRecDepth 100000 in
set_option maxHeartbeats 4000000 in
theorem specExpBounds_any (a b k : Int) (w : World) :
    Calls Try.prog 21 #[.agg #[.int .i64 a, .int .i64 b], .int .i64 k] w (RetEb w (ebV a b k)) := by
  obtain ⟨RV, hRV⟩ : ∃ X, ebV a b k = X := ⟨_, rfl⟩
  rw [hRV]
  have HRV := Lib.hid hRV
  clear hRV
  cases hc : chanceB a b 1
  · have R := Lib.hid (ebV_1 (k := k) hc)
    have HC := Lib.hid hc
    clear hc
    obtain ⟨bb, xx, x4, x5⟩ := box_three w #[.int .i64 a, .int .i64 b] #[.int .i64 0, .int .i64 0] #[.int .i64 0, .int .i64 0] 27 27 27
    go_enter Try.func21, Try.ntmps21
    go_wp2_with fail
    generalize ((w.alloc (.cells #[.int .i64 a, .int .i64 b] 27)).alloc (.cells #[.int .i64 0, .int .i64 0] 27)).alloc (.cells #[.int .i64 0, .int .i64 0] 27) = w0 at *
    refine (kUnit_any _ _ _ _ sm_one).mono ?_
    rintro e w1 ⟨rfl, b1⟩
    rw [HC.out]
    have Xx := Lib.hid xx
    have X4 := Lib.hid x4
    have X5 := Lib.hid x5
    have HB := Lib.hid bb
    have s0 := lt_of_block x5
    clear xx x4 x5 bb
    have s1 := b1.size
    replace Xx := Lib.hid (box_below Xx.out b1)
    replace X4 := Lib.hid (box_below X4.out b1)
    replace X5 := Lib.hid (box_below X5.out b1)
    replace HB := Lib.hid (HB.out.trans (b1.mono HB.out.size))
    clear b1
    obtain rfl : RV = none := HRV.out.symm.trans (R.out)
    have l4 := lt_of_block X4.out
    have c40 := box_cell X4.out 0 _ rfl
    have c41 := box_cell X4.out 1 _ rfl
    have l5 := lt_of_block X5.out
    have c50 := box_cell X5.out 0 _ rfl
    have c51 := box_cell X5.out 1 _ rfl
    have f40 := box_free X4.out 0
    have f41 := box_free X4.out 1
    have f50 := box_free X5.out 0
    have f51 := box_free X5.out 1
    replace Xx := Lib.hid (set_otherE (g := w.heap.size + 1) Xx.out (by omega) (.int .i64 (0)) (.int .i64 (0)))
    replace X5 := Lib.hid (set_otherE (g := w.heap.size + 1) X5.out (by omega) (.int .i64 (0)) (.int .i64 (0)))
    replace X4 := Lib.hid (store_two X4.out (.int .i64 (0)) (.int .i64 (0)))
    replace HB := Lib.hid (below_twoE (g := w.heap.size + 1) HB.out (by omega) (.int .i64 (0)) (.int .i64 (0)))
    replace Xx := Lib.hid (set_otherE (g := w.heap.size + 1 + 1) Xx.out (by omega) (.int .i64 (0)) (.int .i64 (0)))
    replace X4 := Lib.hid (set_otherE (g := w.heap.size + 1 + 1) X4.out (by omega) (.int .i64 (0)) (.int .i64 (0)))
    replace X5 := Lib.hid (store_two X5.out (.int .i64 (0)) (.int .i64 (0)))
    replace HB := Lib.hid (below_twoE (g := w.heap.size + 1 + 1) HB.out (by omega) (.int .i64 (0)) (.int .i64 (0)))
    have e0 := box_cell X4.out 0 _ rfl
    have e1 := box_cell X4.out 1 _ rfl
    have e2 := box_cell X5.out 0 _ rfl
    have e3 := box_cell X5.out 1 _ rfl
    clear Xx X4 X5
    go_wp2
    exact bodyPost_ret (v := .tuple #[.agg #[.int .i64 0, .int .i64 0], .agg #[.int .i64 0, .int .i64 0], .bool false]) (by simp [results, Try.results21, go_sem, e0, e1, e2, e3]) rfl ⟨rfl, HB.out⟩
  have HC := Lib.hid hc
  cases h1 : inR k 1 6
  · have R := Lib.hid (ebV_2 (a := a) (b := b) h1)
    have H1 := Lib.hid h1
    clear hc h1
    obtain ⟨bb, xx, x4, x5⟩ := box_three w #[.int .i64 a, .int .i64 b] #[.int .i64 0, .int .i64 0] #[.int .i64 0, .int .i64 0] 27 27 27
    go_enter Try.func21, Try.ntmps21
    go_wp2_with fail
    generalize ((w.alloc (.cells #[.int .i64 a, .int .i64 b] 27)).alloc (.cells #[.int .i64 0, .int .i64 0] 27)).alloc (.cells #[.int .i64 0, .int .i64 0] 27) = w0 at *
    refine (kUnit_any _ _ _ _ sm_one).mono ?_
    rintro e w1 ⟨rfl, b1⟩
    rw [HC.out]
    have Xx := Lib.hid xx
    have X4 := Lib.hid x4
    have X5 := Lib.hid x5
    have HB := Lib.hid bb
    have s0 := lt_of_block x5
    clear xx x4 x5 bb
    have s1 := b1.size
    replace Xx := Lib.hid (box_below Xx.out b1)
    replace X4 := Lib.hid (box_below X4.out b1)
    replace X5 := Lib.hid (box_below X5.out b1)
    replace HB := Lib.hid (HB.out.trans (b1.mono HB.out.size))
    clear b1
    go_wp2_with fail
    refine (l1In_any _ _ _ _).mono ?_
    rintro e w2 ⟨rfl, rfl⟩
    rw [H1.out]
    obtain rfl : RV = none := HRV.out.symm.trans (R.out)
    have l4 := lt_of_block X4.out
    have c40 := box_cell X4.out 0 _ rfl
    have c41 := box_cell X4.out 1 _ rfl
    have l5 := lt_of_block X5.out
    have c50 := box_cell X5.out 0 _ rfl
    have c51 := box_cell X5.out 1 _ rfl
    have f40 := box_free X4.out 0
    have f41 := box_free X4.out 1
    have f50 := box_free X5.out 0
    have f51 := box_free X5.out 1
    replace Xx := Lib.hid (set_otherE (g := w.heap.size + 1) Xx.out (by omega) (.int .i64 (0)) (.int .i64 (0)))
    replace X5 := Lib.hid (set_otherE (g := w.heap.size + 1) X5.out (by omega) (.int .i64 (0)) (.int .i64 (0)))
    replace X4 := Lib.hid (store_two X4.out (.int .i64 (0)) (.int .i64 (0)))
    replace HB := Lib.hid (below_twoE (g := w.heap.size + 1) HB.out (by omega) (.int .i64 (0)) (.int .i64 (0)))
    replace Xx := Lib.hid (set_otherE (g := w.heap.size + 1 + 1) Xx.out (by omega) (.int .i64 (0)) (.int .i64 (0)))
    replace X4 := Lib.hid (set_otherE (g := w.heap.size + 1 + 1) X4.out (by omega) (.int .i64 (0)) (.int .i64 (0)))
    replace X5 := Lib.hid (store_two X5.out (.int .i64 (0)) (.int .i64 (0)))
    replace HB := Lib.hid (below_twoE (g := w.heap.size + 1 + 1) HB.out (by omega) (.int .i64 (0)) (.int .i64 (0)))
    have e0 := box_cell X4.out 0 _ rfl
    have e1 := box_cell X4.out 1 _ rfl
    have e2 := box_cell X5.out 0 _ rfl
    have e3 := box_cell X5.out 1 _ rfl
    clear Xx X4 X5
    go_wp2
    exact bodyPost_ret (v := .tuple #[.agg #[.int .i64 0, .int .i64 0], .agg #[.int .i64 0, .int .i64 0], .bool false]) (by simp [results, Try.results21, go_sem, e0, e1, e2, e3]) rfl ⟨rfl, HB.out⟩
  have H1 := Lib.hid h1
  have hin := inR_of h1
  obtain ⟨N, rfl⟩ := Int.eq_ofNat_of_zero_le (show 0 ≤ k by omega)
  have hN1 : 1 ≤ N := by omega
  have hN6 : N ≤ 6 := by omega
  obtain ⟨hf, ha0, hab'⟩ := chanceB_of hc
  have hab : a ≤ b := by omega
  clear hab'
  have HF := Lib.hid hf
  have HG := Lib.hid (neg_frac hf)
  have HNE := Lib.hid (show redO (-a) b = some (-a, b) from redO_selfF (neg_frac hf))
  obtain ⟨hb1, hb9, hn0, hn9, _⟩ := fracB_of hf
  obtain ⟨hsa, hsb, _⟩ := fracB_sm hf
  obtain ⟨hsna, _, _⟩ := fracB_sm (neg_frac hf)
  clear hc h1 hin hf
  obtain ⟨bb, xx, x4, x5⟩ := box_three w #[.int .i64 a, .int .i64 b] #[.int .i64 0, .int .i64 0] #[.int .i64 0, .int .i64 0] 27 27 27
  go_enter Try.func21, Try.ntmps21
  go_wp2_with fail
  generalize ((w.alloc (.cells #[.int .i64 a, .int .i64 b] 27)).alloc (.cells #[.int .i64 0, .int .i64 0] 27)).alloc (.cells #[.int .i64 0, .int .i64 0] 27) = w0 at *
  refine (kUnit_any _ _ _ _ sm_one).mono ?_
  rintro e w1 ⟨rfl, b1⟩
  rw [HC.out]
  have Xx := Lib.hid xx
  have X4 := Lib.hid x4
  have X5 := Lib.hid x5
  have HB := Lib.hid bb
  have s0 := lt_of_block x5
  clear xx x4 x5 bb
  have s1 := b1.size
  replace Xx := Lib.hid (box_below Xx.out b1)
  replace X4 := Lib.hid (box_below X4.out b1)
  replace X5 := Lib.hid (box_below X5.out b1)
  replace HB := Lib.hid (HB.out.trans (b1.mono HB.out.size))
  clear b1
  go_wp2_with fail
  refine (l1In_any _ _ _ _).mono ?_
  rintro e w2 ⟨rfl, rfl⟩
  rw [H1.out]
  go_wp2_with fail
  refine (fInt_any _ _).mono ?_
  rintro e w2 ⟨rfl, b2⟩
  have s2 := b2.size
  replace Xx := Lib.hid (box_below Xx.out b2)
  replace X4 := Lib.hid (box_below X4.out b2)
  replace X5 := Lib.hid (box_below X5.out b2)
  replace HB := Lib.hid (HB.out.trans (b2.mono HB.out.size))
  clear b2
  go_wp2_with fail
  refine (fInt_any _ _).mono ?_
  rintro e w3 ⟨rfl, b3⟩
  have s3 := b3.size
  replace Xx := Lib.hid (box_below Xx.out b3)
  replace X4 := Lib.hid (box_below X4.out b3)
  replace X5 := Lib.hid (box_below X5.out b3)
  replace HB := Lib.hid (HB.out.trans (b3.mono HB.out.size))
  clear b3
  obtain ⟨b4, xS, xT⟩ := box_two w3 #[.int .i64 1, .int .i64 1] #[.int .i64 1, .int .i64 1] 27 27
  go_wp2_with fail
  replace Xx := Lib.hid (box_below Xx.out b4)
  replace X4 := Lib.hid (box_below X4.out b4)
  replace X5 := Lib.hid (box_below X5.out b4)
  replace HB := Lib.hid (HB.out.trans (b4.mono HB.out.size))
  have XS := Lib.hid xS
  have XT := Lib.hid xT
  have s4 := lt_of_block xT
  clear xS xT b4
  generalize (w3.alloc (.cells #[.int .i64 1, .int .i64 1] 27)).alloc (.cells #[.int .i64 1, .int .i64 1] 27) = w4 at *
  refine (fInt_any _ _).mono ?_
  rintro e w5 ⟨rfl, b5⟩
  have s5 := b5.size
  replace Xx := Lib.hid (box_below Xx.out b5)
  replace X4 := Lib.hid (box_below X4.out b5)
  replace X5 := Lib.hid (box_below X5.out b5)
  replace XS := Lib.hid (box_below XS.out b5)
  replace XT := Lib.hid (box_below XT.out b5)
  replace HB := Lib.hid (HB.out.trans (b5.mono HB.out.size))
  clear b5
  have b6 := below_new w5 (.cells #[.int .i64 0, .int .i64 1] 27)
  have xL := box_new w5 #[.int .i64 0, .int .i64 1] 27
  replace Xx := Lib.hid (box_below Xx.out b6)
  replace X4 := Lib.hid (box_below X4.out b6)
  replace X5 := Lib.hid (box_below X5.out b6)
  replace XS := Lib.hid (box_below XS.out b6)
  replace XT := Lib.hid (box_below XT.out b6)
  replace HB := Lib.hid (HB.out.trans (b6.mono HB.out.size))
  have XL := Lib.hid xL
  have s6 := b6.size
  clear xL b6
  have s6' := lt_of_block XL.out
  go_wp2_with fail
  generalize w5.alloc (.cells #[.int .i64 0, .int .i64 1] 27) = w6 at *
  have xx := Xx.out
  go_cut [10, 11] (fun v10 v11 wx => ∃ gp, v10 = .pointer (some ⟨gp, 0, none⟩) ∧ v11 = .bool (fB (redO (-a) b)) ∧ wx.heap[gp]? = some (.cells #[.int .i64 (fN (redO (-a) b)), .int .i64 (fD (redO (-a) b))] 27 (0, 0)) ∧ w6.heap.size ≤ gp ∧ Below w6.heap.size w6 wx)
  case first =>
    have B90 := (Below.refl w6.heap.size w6).drew
    have xxk90 : w6.drew.heap[w.heap.size]? = _ := xx
    have ltxx := lt_of_block xx
    go_region_held3 (fun w' => w'.cell? ⟨w.heap.size, 0, none⟩ = some (.int .i64 a) ∧ w'.cell? ⟨w.heap.size, 1, none⟩ = some (.int .i64 b)) (first | exact ⟨xxc092, xxc192⟩ | exact ⟨xxc091, xxc191⟩ | exact ⟨box_cell xxk90 0 _ rfl, box_cell xxk90 1 _ rfl⟩ | exact ⟨cell_new (box_cell xxk90 0 _ rfl), cell_new (box_cell xxk90 1 _ rfl)⟩ | exact ⟨cell_two xxc092 (by omega), cell_two xxc192 (by omega)⟩ | exact ⟨cell_new xxc092, cell_new xxc192⟩ | go_keep) (first
          | (go_at_call 51; refine (fInt_any _ _).mono ?_; rintro e w91 ⟨rfl, b91⟩; (first | (have B91 := keepB B90 (Nat.le_refl _) b91; have xxk91 := box_below xxk90 b91; (first | (have G91 := box_below G90.1 b91; have G91 := And.intro G91 G90.2) | skip)) | (have b91 : Below (w6.drew.alloc (.cells #[.int .i64 0, .int .i64 0] 27)).heap.size (w6.drew.alloc (.cells #[.int .i64 0, .int .i64 0] 27)) w91 := b91; have B91 := keepBN B90 (Nat.le_refl _) b91; have xxk91 := keepN xxk90 b91; have G91 : w91.heap[w6.heap.size]? = _ ∧ w6.heap.size ≤ w6.heap.size := newAt (a := World.drew w6) B90 (Nat.le_refl _) b91)); have xxc091 := box_cell xxk91 0 _ rfl; have xxc191 := box_cell xxk91 1 _ rfl; (first | (have l91 := G91.2; have d0 := box_cell G91.1 0 _ rfl; have d1 := box_cell G91.1 1 _ rfl; have f0 := box_free G91.1 0; have f1 := box_free G91.1 1) | skip))
          | (go_at_call 50; refine (fSub_any _ _ _ _ _ sm_zero sm_one hsa hsb).mono ?_; rintro e w92 ⟨rfl, b92⟩; (first | (have B92 := keepB B91 (Nat.le_refl _) b92; have xxk92 := box_below xxk91 b92; (first | (have G92 := box_below G91.1 b92; have G92 := And.intro G92 G91.2) | skip)) | (have B92 := keepBN B91 (Nat.le_refl _) b92; have xxk92 := keepN xxk91 b92; have G92 := newAt B91 (Nat.le_refl _) b92)); have xxc092 := box_cell xxk92 0 _ rfl; have xxc192 := box_cell xxk92 1 _ rfl; (first | (have l92 := G92.2; have d0 := box_cell G92.1 0 _ rfl; have d1 := box_cell G92.1 1 _ rfl; have f0 := box_free G92.1 0; have f1 := box_free G92.1 1) | skip)))
    all_goals (go_wp2_with fail; go_meet; first | exact ⟨_, rfl, rfl, store_two G92.1 _ _, G92.2, below_two B92 G92.2⟩ | exact ⟨_, rfl, rfl, box_new _ _ _, B92.size, keepB B92 (Nat.le_refl _) (below_new _ _)⟩)
  case rest =>
    obtain ⟨gM, rfl, rfl, xM, hgM, bc⟩ := hcut
    rw [HNE.out] at xM
    simp only [HNE.out, fB]
    generalize wc = w7 at *
    replace xM : w7.heap[gM]? = some (.cells #[.int .i64 (-a), .int .i64 b] 27 (0, 0)) := xM
    clear xx
    replace Xx := Lib.hid (box_below Xx.out bc)
    replace X4 := Lib.hid (box_below X4.out bc)
    replace X5 := Lib.hid (box_below X5.out bc)
    replace XS := Lib.hid (box_below XS.out bc)
    replace XT := Lib.hid (box_below XT.out bc)
    replace XL := Lib.hid (box_below XL.out bc)
    replace HB := Lib.hid (HB.out.trans (bc.mono HB.out.size))
    have XM := Lib.hid xM
    have s7 := bc.size
    have sM := lt_of_block xM
    clear xM bc Xx
    go_wp2_with fail
    go_loopw [12] (fun i wr => ∃ (j : Nat) (p q u v p' q' : Int), j ≤ 2 * N ∧ i = .int .i64 ((j : Int) + 1) ∧ Hid (ebS a b j = some (p, q)) ∧ Hid (cT a b j = some (u, v)) ∧ Hid (2 * N - 1 ≤ j → ebS a b (2 * N - 1) = some (p', q')) ∧ Hid (wr.heap[w.heap.size + 1]? = some (.cells #[.int .i64 0, .int .i64 0] 27 (0, 0))) ∧ Hid (wr.heap[w.heap.size + 1 + 1]? = some (.cells #[.int .i64 0, .int .i64 0] 27 (0, 0))) ∧ Hid (wr.heap[w3.heap.size]? = some (.cells #[.int .i64 p, .int .i64 q] 27 (0, 0))) ∧ Hid (wr.heap[w3.heap.size + 1]? = some (.cells #[.int .i64 u, .int .i64 v] 27 (0, 0))) ∧ Hid (wr.heap[w5.heap.size]? = some (.cells #[.int .i64 p', .int .i64 q'] 27 (0, 0))) ∧ Hid (wr.heap[gM]? = some (.cells #[.int .i64 (-a), .int .i64 b] 27 (0, 0))) ∧ Hid (Below w.heap.size w wr)) (fun i _ => 2 * N + 1 - (intOf i).toNat)
    case atStart => exact ⟨0, 1, 1, 1, 1, 0, 1, Nat.zero_le _, rfl, Lib.hid rfl, Lib.hid cT_zero, Lib.hid (fun h => absurd h (by omega)), X4, X5, XS, XT, XL, XM, HB⟩
    case round =>
      clear X4 X5 XS XT XL XM HB
      obtain ⟨j, p, q, u, v, p', q', hj, rfl, HS, HT, HL, X4, X5, XS, XT, XL, XM, HB⟩ := hrel
      obtain ⟨w3', rfl⟩ : ∃ w3' : World, w3' = wr := ⟨_, rfl⟩
      have s8 := lt_of_block XM.out
      have s8' := lt_of_block XL.out
      by_cases hlt : j < 2 * N
      · obtain ⟨hsu, hsv, _⟩ := fracB_sm (cT_frac HT.out)
        obtain ⟨hsp, hsq, _⟩ := fracB_sm (ebS_frac HS.out)
        have lT := lt_of_block XT.out
        have cT0 := box_cell XT.out 0 _ rfl
        have cT1 := box_cell XT.out 1 _ rfl
        have lM := lt_of_block XM.out
        have cM0 := box_cell XM.out 0 _ rfl
        have cM1 := box_cell XM.out 1 _ rfl
        go_wp2_with fail
        refine (fMul_o u v (-a) b _ hsu hsv hsna hsb).mono ?_
        rintro e w9 ⟨rfl, b9⟩
        clear cT0 cT1 lT cM0 cM1 lM
        have s9 := b9.size
        replace X4 := Lib.hid (box_below X4.out b9)
        replace X5 := Lib.hid (box_below X5.out b9)
        replace XS := Lib.hid (box_below XS.out b9)
        replace XT := Lib.hid (box_below XT.out b9)
        replace XL := Lib.hid (box_below XL.out b9)
        replace XM := Lib.hid (box_below XM.out b9)
        replace HB := Lib.hid (HB.out.trans (b9.mono HB.out.size))
        clear b9
        obtain ⟨M, hM⟩ : ∃ M, mulO u v (-a) b = M := ⟨_, rfl⟩
        have HMM := Lib.hid hM
        rw [hM]
        have hsm : sm (fN M) ∧ sm (fD M) := by rw [← hM]; exact redO_smE _ _
        clear hM
        obtain ⟨hsm1, hsm2⟩ := hsm
        have hsi : sm ((j : Int) + 1) := sm_of (by omega) (by omega)
        have b10 := below_new w9 (.cells #[.int .i64 (fN M), .int .i64 (fD M)] 27)
        have xY := box_new w9 #[.int .i64 (fN M), .int .i64 (fD M)] 27
        replace X4 := Lib.hid (box_below X4.out b10)
        replace X5 := Lib.hid (box_below X5.out b10)
        replace XS := Lib.hid (box_below XS.out b10)
        replace XT := Lib.hid (box_below XT.out b10)
        replace XL := Lib.hid (box_below XL.out b10)
        replace XM := Lib.hid (box_below XM.out b10)
        replace HB := Lib.hid (HB.out.trans (b10.mono HB.out.size))
        have XY := Lib.hid xY
        have s10 := b10.size
        clear xY b10
        have lY := lt_of_block XY.out
        have cY0 := box_cell XY.out 0 _ rfl
        have cY1 := box_cell XY.out 1 _ rfl
        go_wp2_with fail
        generalize w9.alloc (.cells #[.int .i64 (fN M), .int .i64 (fD M)] 27) = w10 at *
        clear cY0 cY1 lY
        have xY := XY.out
        go_cut [15, 16] (fun v15 v16 wx => ∃ gp, v15 = .pointer (some ⟨gp, 0, none⟩) ∧ v16 = .bool (fB (divO (fN M) (fD M) ((j : Int) + 1) 1)) ∧ wx.heap[gp]? = some (.cells #[.int .i64 (fN (divO (fN M) (fD M) ((j : Int) + 1) 1)), .int .i64 (fD (divO (fN M) (fD M) ((j : Int) + 1) 1))] 27 (0, 0)) ∧ w10.heap.size ≤ gp ∧ Below w10.heap.size w10 wx)
        case first =>
          have B90 := (Below.refl w10.heap.size w10).drew
          have xYk90 : w10.drew.heap[w9.heap.size]? = _ := xY
          have ltxY := lt_of_block xY
          go_region_held3 (fun w' => w'.cell? ⟨w9.heap.size, 0, none⟩ = some (.int .i64 (fN M)) ∧ w'.cell? ⟨w9.heap.size, 1, none⟩ = some (.int .i64 (fD M))) (first | exact ⟨xYc092, xYc192⟩ | exact ⟨xYc091, xYc191⟩ | exact ⟨box_cell xYk90 0 _ rfl, box_cell xYk90 1 _ rfl⟩ | exact ⟨cell_new (box_cell xYk90 0 _ rfl), cell_new (box_cell xYk90 1 _ rfl)⟩ | exact ⟨cell_two xYc092 (by omega), cell_two xYc192 (by omega)⟩ | exact ⟨cell_new xYc092, cell_new xYc192⟩ | go_keep) (first
                | (go_at_call 51; refine (fInt_any _ _).mono ?_; rintro e w91 ⟨rfl, b91⟩; (first | (have B91 := keepB B90 (Nat.le_refl _) b91; have xYk91 := box_below xYk90 b91; (first | (have G91 := box_below G90.1 b91; have G91 := And.intro G91 G90.2) | skip)) | (have b91 : Below (w10.drew.alloc (.cells #[.int .i64 0, .int .i64 0] 27)).heap.size (w10.drew.alloc (.cells #[.int .i64 0, .int .i64 0] 27)) w91 := b91; have B91 := keepBN B90 (Nat.le_refl _) b91; have xYk91 := keepN xYk90 b91; have G91 : w91.heap[w10.heap.size]? = _ ∧ w10.heap.size ≤ w10.heap.size := newAt (a := World.drew w10) B90 (Nat.le_refl _) b91)); have xYc091 := box_cell xYk91 0 _ rfl; have xYc191 := box_cell xYk91 1 _ rfl; (first | (have l91 := G91.2; have d0 := box_cell G91.1 0 _ rfl; have d1 := box_cell G91.1 1 _ rfl; have f0 := box_free G91.1 0; have f1 := box_free G91.1 1) | skip))
                | (go_at_call 57; refine (fDiv_any _ _ _ _ _ hsm1 hsm2 hsi sm_one).mono ?_; rintro e w92 ⟨rfl, b92⟩; (first | (have B92 := keepB B91 (Nat.le_refl _) b92; have xYk92 := box_below xYk91 b92; (first | (have G92 := box_below G91.1 b92; have G92 := And.intro G92 G91.2) | skip)) | (have B92 := keepBN B91 (Nat.le_refl _) b92; have xYk92 := keepN xYk91 b92; have G92 := newAt B91 (Nat.le_refl _) b92)); have xYc092 := box_cell xYk92 0 _ rfl; have xYc192 := box_cell xYk92 1 _ rfl; (first | (have l92 := G92.2; have d0 := box_cell G92.1 0 _ rfl; have d1 := box_cell G92.1 1 _ rfl; have f0 := box_free G92.1 0; have f1 := box_free G92.1 1) | skip)))
          all_goals (go_wp2_with fail; go_meet; first | exact ⟨_, rfl, rfl, store_two G92.1 _ _, G92.2, below_two B92 G92.2⟩ | exact ⟨_, rfl, rfl, box_new _ _ _, B92.size, keepB B92 (Nat.le_refl _) (below_new _ _)⟩)
        case rest =>
          obtain ⟨gZ, rfl, rfl, xZ, hgZ, bc⟩ := hcut
          generalize wc = w11 at *
          clear xY
          replace X4 := Lib.hid (box_below X4.out bc)
          replace X5 := Lib.hid (box_below X5.out bc)
          replace XS := Lib.hid (box_below XS.out bc)
          replace XT := Lib.hid (box_below XT.out bc)
          replace XL := Lib.hid (box_below XL.out bc)
          replace XM := Lib.hid (box_below XM.out bc)
          replace XY := Lib.hid (box_below XY.out bc)
          replace HB := Lib.hid (HB.out.trans (bc.mono HB.out.size))
          have XZ := Lib.hid xZ
          have s11 := bc.size
          have sZ := lt_of_block xZ
          clear xZ bc
          cases M with
          | none =>
            have HE := Lib.hid (ebV_no (N := N) (ebS_no (te_no hb1 ha0 hab HT.out HMM.out)) (by omega))
            clear XZ
            rw [show divO (fN none) (fD none) ((j : Int) + 1) 1 = none from divO_00 _ (by omega)]
            simp only [fB]
            obtain rfl : RV = none := HRV.out.symm.trans (HE.out)
            have l4 := lt_of_block X4.out
            have c40 := box_cell X4.out 0 _ rfl
            have c41 := box_cell X4.out 1 _ rfl
            have l5 := lt_of_block X5.out
            have c50 := box_cell X5.out 0 _ rfl
            have c51 := box_cell X5.out 1 _ rfl
            have f40 := box_free X4.out 0
            have f41 := box_free X4.out 1
            have f50 := box_free X5.out 0
            have f51 := box_free X5.out 1
            replace X5 := Lib.hid (set_otherE (g := w.heap.size + 1) X5.out (by omega) (.int .i64 (0)) (.int .i64 (0)))
            replace XS := Lib.hid (set_otherE (g := w.heap.size + 1) XS.out (by omega) (.int .i64 (0)) (.int .i64 (0)))
            replace XT := Lib.hid (set_otherE (g := w.heap.size + 1) XT.out (by omega) (.int .i64 (0)) (.int .i64 (0)))
            replace XL := Lib.hid (set_otherE (g := w.heap.size + 1) XL.out (by omega) (.int .i64 (0)) (.int .i64 (0)))
            replace XM := Lib.hid (set_otherE (g := w.heap.size + 1) XM.out (by omega) (.int .i64 (0)) (.int .i64 (0)))
            replace XY := Lib.hid (set_otherE (g := w.heap.size + 1) XY.out (by omega) (.int .i64 (0)) (.int .i64 (0)))
            replace X4 := Lib.hid (store_two X4.out (.int .i64 (0)) (.int .i64 (0)))
            replace HB := Lib.hid (below_twoE (g := w.heap.size + 1) HB.out (by omega) (.int .i64 (0)) (.int .i64 (0)))
            replace X4 := Lib.hid (set_otherE (g := w.heap.size + 1 + 1) X4.out (by omega) (.int .i64 (0)) (.int .i64 (0)))
            replace XS := Lib.hid (set_otherE (g := w.heap.size + 1 + 1) XS.out (by omega) (.int .i64 (0)) (.int .i64 (0)))
            replace XT := Lib.hid (set_otherE (g := w.heap.size + 1 + 1) XT.out (by omega) (.int .i64 (0)) (.int .i64 (0)))
            replace XL := Lib.hid (set_otherE (g := w.heap.size + 1 + 1) XL.out (by omega) (.int .i64 (0)) (.int .i64 (0)))
            replace XM := Lib.hid (set_otherE (g := w.heap.size + 1 + 1) XM.out (by omega) (.int .i64 (0)) (.int .i64 (0)))
            replace XY := Lib.hid (set_otherE (g := w.heap.size + 1 + 1) XY.out (by omega) (.int .i64 (0)) (.int .i64 (0)))
            replace X5 := Lib.hid (store_two X5.out (.int .i64 (0)) (.int .i64 (0)))
            replace HB := Lib.hid (below_twoE (g := w.heap.size + 1 + 1) HB.out (by omega) (.int .i64 (0)) (.int .i64 (0)))
            have e0 := box_cell X4.out 0 _ rfl
            have e1 := box_cell X4.out 1 _ rfl
            have e2 := box_cell X5.out 0 _ rfl
            have e3 := box_cell X5.out 1 _ rfl
            clear X4 X5 XS XT XL XM XY
            go_wp2
            exact bodyPost_ret (v := .tuple #[.agg #[.int .i64 0, .int .i64 0], .agg #[.int .i64 0, .int .i64 0], .bool false]) (by simp [results, Try.results21, go_sem, e0, e1, e2, e3]) rfl ⟨rfl, HB.out⟩
          | some r =>
            obtain ⟨y, z⟩ := r
            have hTE : divO y z ((j : Int) + 1) 1 = cT a b (j + 1) := te_yes hb1 HT.out HMM.out
            have HTE := Lib.hid (show divO (fN (some (y, z))) (fD (some (y, z))) ((j : Int) + 1) 1 = cT a b (j + 1) from hTE)
            clear hTE
            rw [HTE.out] at XZ
            rw [HTE.out]
            cases hC : cT a b (j + 1) with
            | none =>
              have HE := Lib.hid (ebV_no (N := N) (ebS_no hC) (by omega))
              clear hC XZ
              simp only [fB]
              obtain rfl : RV = none := HRV.out.symm.trans (HE.out)
              have l4 := lt_of_block X4.out
              have c40 := box_cell X4.out 0 _ rfl
              have c41 := box_cell X4.out 1 _ rfl
              have l5 := lt_of_block X5.out
              have c50 := box_cell X5.out 0 _ rfl
              have c51 := box_cell X5.out 1 _ rfl
              have f40 := box_free X4.out 0
              have f41 := box_free X4.out 1
              have f50 := box_free X5.out 0
              have f51 := box_free X5.out 1
              replace X5 := Lib.hid (set_otherE (g := w.heap.size + 1) X5.out (by omega) (.int .i64 (0)) (.int .i64 (0)))
              replace XS := Lib.hid (set_otherE (g := w.heap.size + 1) XS.out (by omega) (.int .i64 (0)) (.int .i64 (0)))
              replace XT := Lib.hid (set_otherE (g := w.heap.size + 1) XT.out (by omega) (.int .i64 (0)) (.int .i64 (0)))
              replace XL := Lib.hid (set_otherE (g := w.heap.size + 1) XL.out (by omega) (.int .i64 (0)) (.int .i64 (0)))
              replace XM := Lib.hid (set_otherE (g := w.heap.size + 1) XM.out (by omega) (.int .i64 (0)) (.int .i64 (0)))
              replace XY := Lib.hid (set_otherE (g := w.heap.size + 1) XY.out (by omega) (.int .i64 (0)) (.int .i64 (0)))
              replace X4 := Lib.hid (store_two X4.out (.int .i64 (0)) (.int .i64 (0)))
              replace HB := Lib.hid (below_twoE (g := w.heap.size + 1) HB.out (by omega) (.int .i64 (0)) (.int .i64 (0)))
              replace X4 := Lib.hid (set_otherE (g := w.heap.size + 1 + 1) X4.out (by omega) (.int .i64 (0)) (.int .i64 (0)))
              replace XS := Lib.hid (set_otherE (g := w.heap.size + 1 + 1) XS.out (by omega) (.int .i64 (0)) (.int .i64 (0)))
              replace XT := Lib.hid (set_otherE (g := w.heap.size + 1 + 1) XT.out (by omega) (.int .i64 (0)) (.int .i64 (0)))
              replace XL := Lib.hid (set_otherE (g := w.heap.size + 1 + 1) XL.out (by omega) (.int .i64 (0)) (.int .i64 (0)))
              replace XM := Lib.hid (set_otherE (g := w.heap.size + 1 + 1) XM.out (by omega) (.int .i64 (0)) (.int .i64 (0)))
              replace XY := Lib.hid (set_otherE (g := w.heap.size + 1 + 1) XY.out (by omega) (.int .i64 (0)) (.int .i64 (0)))
              replace X5 := Lib.hid (store_two X5.out (.int .i64 (0)) (.int .i64 (0)))
              replace HB := Lib.hid (below_twoE (g := w.heap.size + 1 + 1) HB.out (by omega) (.int .i64 (0)) (.int .i64 (0)))
              have e0 := box_cell X4.out 0 _ rfl
              have e1 := box_cell X4.out 1 _ rfl
              have e2 := box_cell X5.out 0 _ rfl
              have e3 := box_cell X5.out 1 _ rfl
              clear X4 X5 XS XT XL XM XY
              go_wp2
              exact bodyPost_ret (v := .tuple #[.agg #[.int .i64 0, .int .i64 0], .agg #[.int .i64 0, .int .i64 0], .bool false]) (by simp [results, Try.results21, go_sem, e0, e1, e2, e3]) rfl ⟨rfl, HB.out⟩
            | some r2 =>
              obtain ⟨x, t⟩ := r2
              have HSS := Lib.hid (ebS_step HS.out hC)
              have HC2 := Lib.hid hC
              obtain ⟨hsx, hst, _⟩ := fracB_sm (cT_frac hC)
              rw [hC] at XZ
              replace XZ : Hid (w11.heap[gZ]? = some (.cells #[.int .i64 x, .int .i64 t] 27 (0, 0))) := XZ
              clear hC
              simp only [fB]
              have lZ := lt_of_block XZ.out
              have cZ0 := box_cell XZ.out 0 _ rfl
              have cZ1 := box_cell XZ.out 1 _ rfl
              have lS := lt_of_block XS.out
              have cS0 := box_cell XS.out 0 _ rfl
              have cS1 := box_cell XS.out 1 _ rfl
              have lT := lt_of_block XT.out
              have cT0 := box_cell XT.out 0 _ rfl
              have cT1 := box_cell XT.out 1 _ rfl
              have fT0 := box_free XT.out 0
              have fT1 := box_free XT.out 1
              replace X4 := Lib.hid (set_otherE (g := w3.heap.size + 1) X4.out (by omega) (.int .i64 (x)) (.int .i64 (t)))
              replace X5 := Lib.hid (set_otherE (g := w3.heap.size + 1) X5.out (by omega) (.int .i64 (x)) (.int .i64 (t)))
              replace XS := Lib.hid (set_otherE (g := w3.heap.size + 1) XS.out (by omega) (.int .i64 (x)) (.int .i64 (t)))
              replace XL := Lib.hid (set_otherE (g := w3.heap.size + 1) XL.out (by omega) (.int .i64 (x)) (.int .i64 (t)))
              replace XM := Lib.hid (set_otherE (g := w3.heap.size + 1) XM.out (by omega) (.int .i64 (x)) (.int .i64 (t)))
              replace XY := Lib.hid (set_otherE (g := w3.heap.size + 1) XY.out (by omega) (.int .i64 (x)) (.int .i64 (t)))
              replace XZ := Lib.hid (set_otherE (g := w3.heap.size + 1) XZ.out (by omega) (.int .i64 (x)) (.int .i64 (t)))
              replace XT := Lib.hid (store_two XT.out (.int .i64 (x)) (.int .i64 (t)))
              replace HB := Lib.hid (below_twoE (g := w3.heap.size + 1) HB.out (by omega) (.int .i64 (x)) (.int .i64 (t)))
              have dS0 := box_cell XS.out 0 _ rfl
              have dS1 := box_cell XS.out 1 _ rfl
              have dT0 := box_cell XT.out 0 _ rfl
              have dT1 := box_cell XT.out 1 _ rfl
              have s12 := Nat.le_of_eq (size_twoE w11 (w3.heap.size + 1) (.int .i64 x) (.int .i64 t)).symm
              go_wp2_with fail
              clear dS0 dS1 dT0 dT1
              clear cZ0 cZ1 lZ cS0 cS1 lS cT0 cT1 lT fT0 fT1
              generalize (w11.setCell ⟨w3.heap.size + 1, 0, none⟩ (.int .i64 x)).setCell ⟨w3.heap.size + 1, 1, none⟩ (.int .i64 t) = w12 at *
              refine (fAdd_o p q x t _ hsp hsq hsx hst).mono ?_
              rintro e w13 ⟨rfl, b13⟩
              have s13 := b13.size
              replace X4 := Lib.hid (box_below X4.out b13)
              replace X5 := Lib.hid (box_below X5.out b13)
              replace XS := Lib.hid (box_below XS.out b13)
              replace XT := Lib.hid (box_below XT.out b13)
              replace XL := Lib.hid (box_below XL.out b13)
              replace XM := Lib.hid (box_below XM.out b13)
              replace XY := Lib.hid (box_below XY.out b13)
              replace XZ := Lib.hid (box_below XZ.out b13)
              replace HB := Lib.hid (HB.out.trans (b13.mono HB.out.size))
              clear b13
              cases hA : addO p q x t with
              | none =>
                have HE := Lib.hid (ebV_no (N := N) (show ebS a b (j + 1) = none from HSS.out.trans hA) (by omega))
                clear hA
                simp only [fN, fD, fB]
                have b14 := below_new w13 (.cells #[.int .i64 0, .int .i64 0] 27)
                have xA := box_new w13 #[.int .i64 0, .int .i64 0] 27
                replace X4 := Lib.hid (box_below X4.out b14)
                replace X5 := Lib.hid (box_below X5.out b14)
                replace XS := Lib.hid (box_below XS.out b14)
                replace XT := Lib.hid (box_below XT.out b14)
                replace XL := Lib.hid (box_below XL.out b14)
                replace XM := Lib.hid (box_below XM.out b14)
                replace XY := Lib.hid (box_below XY.out b14)
                replace XZ := Lib.hid (box_below XZ.out b14)
                replace HB := Lib.hid (HB.out.trans (b14.mono HB.out.size))
                have XA := Lib.hid xA
                have s14 := b14.size
                clear xA b14
                obtain rfl : RV = none := HRV.out.symm.trans (HE.out)
                have l4 := lt_of_block X4.out
                have c40 := box_cell X4.out 0 _ rfl
                have c41 := box_cell X4.out 1 _ rfl
                have l5 := lt_of_block X5.out
                have c50 := box_cell X5.out 0 _ rfl
                have c51 := box_cell X5.out 1 _ rfl
                have f40 := box_free X4.out 0
                have f41 := box_free X4.out 1
                have f50 := box_free X5.out 0
                have f51 := box_free X5.out 1
                replace X5 := Lib.hid (set_otherE (g := w.heap.size + 1) X5.out (by omega) (.int .i64 (0)) (.int .i64 (0)))
                replace XS := Lib.hid (set_otherE (g := w.heap.size + 1) XS.out (by omega) (.int .i64 (0)) (.int .i64 (0)))
                replace XT := Lib.hid (set_otherE (g := w.heap.size + 1) XT.out (by omega) (.int .i64 (0)) (.int .i64 (0)))
                replace XL := Lib.hid (set_otherE (g := w.heap.size + 1) XL.out (by omega) (.int .i64 (0)) (.int .i64 (0)))
                replace XM := Lib.hid (set_otherE (g := w.heap.size + 1) XM.out (by omega) (.int .i64 (0)) (.int .i64 (0)))
                replace XY := Lib.hid (set_otherE (g := w.heap.size + 1) XY.out (by omega) (.int .i64 (0)) (.int .i64 (0)))
                replace XZ := Lib.hid (set_otherE (g := w.heap.size + 1) XZ.out (by omega) (.int .i64 (0)) (.int .i64 (0)))
                replace XA := Lib.hid (set_otherE (g := w.heap.size + 1) XA.out (by omega) (.int .i64 (0)) (.int .i64 (0)))
                replace X4 := Lib.hid (store_two X4.out (.int .i64 (0)) (.int .i64 (0)))
                replace HB := Lib.hid (below_twoE (g := w.heap.size + 1) HB.out (by omega) (.int .i64 (0)) (.int .i64 (0)))
                replace X4 := Lib.hid (set_otherE (g := w.heap.size + 1 + 1) X4.out (by omega) (.int .i64 (0)) (.int .i64 (0)))
                replace XS := Lib.hid (set_otherE (g := w.heap.size + 1 + 1) XS.out (by omega) (.int .i64 (0)) (.int .i64 (0)))
                replace XT := Lib.hid (set_otherE (g := w.heap.size + 1 + 1) XT.out (by omega) (.int .i64 (0)) (.int .i64 (0)))
                replace XL := Lib.hid (set_otherE (g := w.heap.size + 1 + 1) XL.out (by omega) (.int .i64 (0)) (.int .i64 (0)))
                replace XM := Lib.hid (set_otherE (g := w.heap.size + 1 + 1) XM.out (by omega) (.int .i64 (0)) (.int .i64 (0)))
                replace XY := Lib.hid (set_otherE (g := w.heap.size + 1 + 1) XY.out (by omega) (.int .i64 (0)) (.int .i64 (0)))
                replace XZ := Lib.hid (set_otherE (g := w.heap.size + 1 + 1) XZ.out (by omega) (.int .i64 (0)) (.int .i64 (0)))
                replace XA := Lib.hid (set_otherE (g := w.heap.size + 1 + 1) XA.out (by omega) (.int .i64 (0)) (.int .i64 (0)))
                replace X5 := Lib.hid (store_two X5.out (.int .i64 (0)) (.int .i64 (0)))
                replace HB := Lib.hid (below_twoE (g := w.heap.size + 1 + 1) HB.out (by omega) (.int .i64 (0)) (.int .i64 (0)))
                have e0 := box_cell X4.out 0 _ rfl
                have e1 := box_cell X4.out 1 _ rfl
                have e2 := box_cell X5.out 0 _ rfl
                have e3 := box_cell X5.out 1 _ rfl
                clear X4 X5 XS XT XL XM XY XZ XA
                go_wp2
                exact bodyPost_ret (v := .tuple #[.agg #[.int .i64 0, .int .i64 0], .agg #[.int .i64 0, .int .i64 0], .bool false]) (by simp [results, Try.results21, go_sem, e0, e1, e2, e3]) rfl ⟨rfl, HB.out⟩
              | some r3 =>
                obtain ⟨x2, y2⟩ := r3
                have HS2 := Lib.hid (HSS.out.trans hA)
                clear hA HSS
                simp only [fN, fD, fB]
                have b14 := below_new w13 (.cells #[.int .i64 x2, .int .i64 y2] 27)
                have xA := box_new w13 #[.int .i64 x2, .int .i64 y2] 27
                replace X4 := Lib.hid (box_below X4.out b14)
                replace X5 := Lib.hid (box_below X5.out b14)
                replace XS := Lib.hid (box_below XS.out b14)
                replace XT := Lib.hid (box_below XT.out b14)
                replace XL := Lib.hid (box_below XL.out b14)
                replace XM := Lib.hid (box_below XM.out b14)
                replace XY := Lib.hid (box_below XY.out b14)
                replace XZ := Lib.hid (box_below XZ.out b14)
                replace HB := Lib.hid (HB.out.trans (b14.mono HB.out.size))
                have XA := Lib.hid xA
                have s14 := b14.size
                clear xA b14
                have lA := lt_of_block XA.out
                have cA0 := box_cell XA.out 0 _ rfl
                have cA1 := box_cell XA.out 1 _ rfl
                have lS := lt_of_block XS.out
                have cS0 := box_cell XS.out 0 _ rfl
                have cS1 := box_cell XS.out 1 _ rfl
                have fS0 := box_free XS.out 0
                have fS1 := box_free XS.out 1
                replace X4 := Lib.hid (set_otherE (g := w3.heap.size) X4.out (by omega) (.int .i64 (x2)) (.int .i64 (y2)))
                replace X5 := Lib.hid (set_otherE (g := w3.heap.size) X5.out (by omega) (.int .i64 (x2)) (.int .i64 (y2)))
                replace XT := Lib.hid (set_otherE (g := w3.heap.size) XT.out (by omega) (.int .i64 (x2)) (.int .i64 (y2)))
                replace XL := Lib.hid (set_otherE (g := w3.heap.size) XL.out (by omega) (.int .i64 (x2)) (.int .i64 (y2)))
                replace XM := Lib.hid (set_otherE (g := w3.heap.size) XM.out (by omega) (.int .i64 (x2)) (.int .i64 (y2)))
                replace XY := Lib.hid (set_otherE (g := w3.heap.size) XY.out (by omega) (.int .i64 (x2)) (.int .i64 (y2)))
                replace XZ := Lib.hid (set_otherE (g := w3.heap.size) XZ.out (by omega) (.int .i64 (x2)) (.int .i64 (y2)))
                replace XA := Lib.hid (set_otherE (g := w3.heap.size) XA.out (by omega) (.int .i64 (x2)) (.int .i64 (y2)))
                replace XS := Lib.hid (store_two XS.out (.int .i64 (x2)) (.int .i64 (y2)))
                replace HB := Lib.hid (below_twoE (g := w3.heap.size) HB.out (by omega) (.int .i64 (x2)) (.int .i64 (y2)))
                have HLT := Lib.hid hlt
                by_cases hk : j + 1 = 2 * N - 1
                · have hk9 : (((j : Int) + 1) == 2 * (N : Int) - 1) = true := by rw [beq_iff_eq]; omega
                  have HK := Lib.hid hk
                  clear hk
                  have dS0 := box_cell XS.out 0 _ rfl
                  have dS1 := box_cell XS.out 1 _ rfl
                  have lL := lt_of_block XL.out
                  have cL0 := box_cell XL.out 0 _ rfl
                  have cL1 := box_cell XL.out 1 _ rfl
                  have fL0 := box_free XL.out 0
                  have fL1 := box_free XL.out 1
                  replace X4 := Lib.hid (set_otherE (g := w5.heap.size) X4.out (by omega) (.int .i64 (x2)) (.int .i64 (y2)))
                  replace X5 := Lib.hid (set_otherE (g := w5.heap.size) X5.out (by omega) (.int .i64 (x2)) (.int .i64 (y2)))
                  replace XS := Lib.hid (set_otherE (g := w5.heap.size) XS.out (by omega) (.int .i64 (x2)) (.int .i64 (y2)))
                  replace XT := Lib.hid (set_otherE (g := w5.heap.size) XT.out (by omega) (.int .i64 (x2)) (.int .i64 (y2)))
                  replace XM := Lib.hid (set_otherE (g := w5.heap.size) XM.out (by omega) (.int .i64 (x2)) (.int .i64 (y2)))
                  replace XY := Lib.hid (set_otherE (g := w5.heap.size) XY.out (by omega) (.int .i64 (x2)) (.int .i64 (y2)))
                  replace XZ := Lib.hid (set_otherE (g := w5.heap.size) XZ.out (by omega) (.int .i64 (x2)) (.int .i64 (y2)))
                  replace XA := Lib.hid (set_otherE (g := w5.heap.size) XA.out (by omega) (.int .i64 (x2)) (.int .i64 (y2)))
                  replace XL := Lib.hid (store_two XL.out (.int .i64 (x2)) (.int .i64 (y2)))
                  replace HB := Lib.hid (below_twoE (g := w5.heap.size) HB.out (by omega) (.int .i64 (x2)) (.int .i64 (y2)))
                  go_wp2
                  clear hk9
                  go_roundw
                  case rel => exact ⟨j + 1, x2, y2, x, t, x2, y2, by have := HLT.out; omega, by go_num, HS2, HC2, Lib.hid (fun _ => by rw [← HK.out]; exact HS2.out), X4, X5, XS, XT, XL, XM, HB⟩
                  case measure => simp [intOf]; have := HLT.out; omega
                · have hk9 : (((j : Int) + 1) == 2 * (N : Int) - 1) = false := by rw [beq_eq_false_iff_ne]; omega
                  have HK := Lib.hid hk
                  clear hk
                  go_wp2
                  clear hk9
                  go_roundw
                  case rel => exact ⟨j + 1, x2, y2, x, t, p', q', by have := HLT.out; omega, by go_num, HS2, HC2, Lib.hid (fun h => HL.out (by have := HK.out; omega)), X4, X5, XS, XT, XL, XM, HB⟩
                  case measure => simp [intOf]; have := HLT.out; omega
      · obtain rfl : j = 2 * N := by omega
        obtain rfl : RV = some ((p', q'), (p, q)) := HRV.out.symm.trans (ebV_yes HC.out hN1 hN6 (HL.out (by omega)) HS.out)
        clear HS HT HL HRV
        go_wp2_with fail
        have xL := XL.out
        have lL := lt_of_block xL
        have dL0 := box_cell xL 0 _ rfl
        have dL1 := box_cell xL 1 _ rfl
        have xS := XS.out
        have lS := lt_of_block xS
        have dS0 := box_cell xS 0 _ rfl
        have dS1 := box_cell xS 1 _ rfl
        have x4 := X4.out
        have l4 := lt_of_block x4
        have d40 := box_cell x4 0 _ rfl
        have d41 := box_cell x4 1 _ rfl
        have x5 := X5.out
        have l5 := lt_of_block x5
        have d50 := box_cell x5 0 _ rfl
        have d51 := box_cell x5 1 _ rfl
        have f40 := box_free x4 0
        have f41 := box_free x4 1
        have f50 := box_free x5 0
        have f51 := box_free x5 1
        have nL4 : w5.heap.size ≠ w.heap.size + 1 := by omega
        have nL5 : w5.heap.size ≠ w.heap.size + 1 + 1 := by omega
        have nS4 : w3.heap.size ≠ w.heap.size + 1 := by omega
        have nS5 : w3.heap.size ≠ w.heap.size + 1 + 1 := by omega
        have n45 : w.heap.size + 1 ≠ w.heap.size + 1 + 1 := by omega
        have n54 : w.heap.size + 1 + 1 ≠ w.heap.size + 1 := by omega
        have y0 := store_two x4 (.int .i64 p') (.int .i64 q')
        have y1 := set_otherE y0 n45 (.int .i64 p) (.int .i64 q)
        have z1 := store_two (set_otherE x5 n54 (.int .i64 p') (.int .i64 q')) (.int .i64 p) (.int .i64 q)
        have HBB := Lib.hid (below_twoE (g := w.heap.size + 1 + 1) (below_twoE (g := w.heap.size + 1) HB.out (by omega) (.int .i64 p') (.int .i64 q')) (by omega) (.int .i64 p) (.int .i64 q))
        clear X4 X5 XS XT XL XM HB
        go_region
        have e00 := box_cell y1 0 _ rfl
        have e01 := box_cell y1 1 _ rfl
        have e10 := box_cell z1 0 _ rfl
        have e11 := box_cell z1 1 _ rfl
        go_wp2
        exact bodyPost_ret (v := .tuple #[.agg #[.int .i64 p', .int .i64 q'], .agg #[.int .i64 p, .int .i64 q], .bool true]) (by simp [results, Try.results21, go_sem, e00, e01, e10, e11]) rfl ⟨rfl, HBB.out.drew⟩
end Go.Proofs.Ytgfihfmlofgopaa
