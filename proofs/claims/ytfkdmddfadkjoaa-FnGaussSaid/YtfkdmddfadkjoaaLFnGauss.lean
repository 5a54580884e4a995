/- The walk of the law FnGauss, printed by gdl.py. -/
import Derived.Test.YtfkdmddfadkjoaaLaw
import Derived.Test.YtfkdmddfadkjoaaGaussFn
import Derived.Test.YtfkdmddfadkjoaaGaussSample
import Derived.Test.YtfkdmddfadkjoaaLaplaceSample
namespace Go.Proofs.Ytfkdmddfadkjoaa
open Go.RowKit

theorem redO_neg (n d : Int) : redO (-n) d = (redO n d).map fun r => (-r.1, r.2) := by
  by_cases hd : d = 0
  · subst hd; rw [redO_zero, redO_zero]; rfl
  · have hg : Int.gcd (-n) d = Int.gcd n d := Int.neg_gcd ..
    have hp : redP (-n) d = -redP n d := by
      unfold redP
      rw [hg, Int.neg_tdiv]
      split <;> rfl
    have hq : redQ (-n) d = redQ n d := by unfold redQ; rw [hg]
    by_cases hb : -1000000000 ≤ redP n d ∧ redP n d ≤ 1000000000 ∧ redQ n d ≤ 1000000000
    · rw [redO_yes hd hb, redO_yes hd (by rw [hp, hq]; omega), hp, hq]; rfl
    · rw [redO_no hd hb, redO_no hd (by rw [hp, hq]; omega)]; rfl
theorem logR_swap (n d i j : Int) : logR n d j i = (logR n d i j).map fun r => (-r.1, r.2) := by
  by_cases h : sigmaB n d = true ∧ inR i (-10000) 10000 = true ∧ inR j (-10000) 10000 = true
  · rw [logR_yes h, logR_yes ⟨h.1, h.2.2, h.2.1⟩, ← redO_neg]
    congr 1
    rw [← Int.neg_mul]
    congr 1
    omega
  · rw [logR_no h, logR_no (fun h2 => h ⟨h2.1, h2.2.2, h2.2.1⟩)]; rfl
theorem map_neg (R : Option (Int × Int)) : fN (R.map fun r => (-r.1, r.2)) = -fN R ∧ fD (R.map fun r => (-r.1, r.2)) = fD R ∧ fB (R.map fun r => (-r.1, r.2)) = fB R := by
  cases R with
  | none => exact ⟨rfl, rfl, rfl⟩
  | some r => exact ⟨rfl, rfl, rfl⟩
theorem logR_sm (n d i j : Int) : -1000000000 ≤ fN (logR n d i j) ∧ fN (logR n d i j) ≤ 1000000000 := by
  unfold logR
  split
  · have := redO_sm ((j * j - i * i) * d) (1 * (2 * n))
    exact ⟨sm_lo this.1, sm_hi this.1⟩
  · exact ⟨by show -1000000000 ≤ (0 : Int); omega, by show (0 : Int) ≤ 1000000000; omega⟩
theorem accR_nn (n d y : Int) : 0 ≤ fN (accR n d y) := by
  unfold accR
  split
  · rename_i h
    cases hA : accM n d y with
    | none => exact Int.le_refl _
    | some r =>
      obtain ⟨p, q⟩ := r
      exact (accM_nn h.1 hA).2
  · exact Int.le_refl _
/-- The loss of the parameter for a loss is that loss, where it can be told. -/
theorem loss_back {n d s p q : Int} (h : sigR n d s = some (p, q)) : lossR p q s = none ∨ lossR p q s = some (n, d) := by
  by_cases hl : sigmaB p q = true ∧ 0 ≤ s ∧ s ≤ 1000
  · refine .inr ?_
    rw [lossR_yes hl]
    by_cases hs : fracB n d = true ∧ 0 < n ∧ 1 ≤ s ∧ s ≤ 1000
    · rw [sigR_yes hs] at h
      have hr := redO_ratio h
      have hp := (sigmaB_of hl.1).2.1
      have hf := fracB_of hs.1
      rw [← redO_self hs.1]
      refine redO_same (by omega) (by omega) ?_
      rw [Int.one_mul] at hr ⊢
      calc s * s * q * d = s * s * d * q := by ac_rfl
        _ = p * (2 * n) := hr.symm
        _ = n * (2 * p) := by ac_rfl
    · rw [sigR_no hs] at h; cases h
  · exact .inl (lossR_no hl)

set_option maxRecDepth 100000 in
set_option maxHeartbeats 4000000 in
theorem walk_FnGauss (a0 : Option Addr) (n0 c0 : Nat) (z0 : List Int) (a1 : Option Addr) (n1 c1 : Nat) (z1 : List Int) (w : World) (r0 : Bytes w a0 n0 z0) (m0 : n0 ≤ maxLen) (f0 : ∀ x ∈ z0, (Lit.int .u8 x).wf = true) (r1 : Bytes w a1 n1 z1) (_m1 : n1 ≤ maxLen) (f1 : ∀ x ∈ z1, (Lit.int .u8 x).wf = true) :
    Calls Try.prog 10 #[.slice a0 n0 c0, .slice a1 n1 c1] w fun e w' => e = .returned (.bool true) ∧ Below w.heap.size w w' := by
  have hb0 := Lib.hid (byt_of r0 f0)
  have hb1 := Lib.hid (byt_of r1 f1)
  have B0 := Below.refl w.heap.size w
  clear r0 f0 r1 f1
  go_enter Try.func10, Try.ntmps10
  go_wp2_with fail
  refine (big_any _ _ _ _ _ _ _ m0).mono ?_
  rintro e w' ⟨rfl, rfl⟩
  cases hbig : bigB n0 n1
  case true =>
    clear hbig
    go_wp2
    go_ret
    exact ⟨rfl, B0⟩
  have hbg := bigB_of hbig
  have hn0 := hbg.1
  have hn1 := hbg.2
  clear hbig hbg m0
  go_wp2_with fail
  refine (drawSigmaFor_any _ _ _ _ (hb0.out.below B0) hn0).mono ?_
  rintro e w1 ⟨n, d, sn, rfl, b1⟩
  have B1 := B0.trans (b1.mono B0.size)
  have S1 := b1.size
  clear b1 B0
  go_wp2_with fail
  have b2 := below_new w1 (.cells #[.int .i64 n, .int .i64 d] 28)
  have y2 := box_new w1 #[.int .i64 n, .int .i64 d] 28
  have q2 : (w1.alloc (.cells #[.int .i64 n, .int .i64 d] 28)).heap.size = w1.heap.size + 1 := by simp
  obtain ⟨gf, hgf⟩ : ∃ g, w1.heap.size = g := ⟨_, rfl⟩
  generalize w1.alloc (.cells #[.int .i64 n, .int .i64 d] 28) = w2 at *
  have B2 := B1.trans (b2.mono B1.size)
  have S2 := b2.size
  clear b2 B1
  rw [hgf] at y2 q2 ⊢
  have xf := y2
  try rw [← q2]
  clear y2 q2 hgf
  refine (implSigmaFor_law _ _ _ _).mono ?_
  rintro e w3 ⟨rfl, b3⟩
  have B3 := B2.trans (b3.mono B2.size)
  replace xf := box_below xf b3
  have S3 := b3.size
  clear b3 B2
  have lf := lt_of_block xf
  have cf0 := box_cell xf 0 _ rfl
  have cf1 := box_cell xf 1 _ rfl
  go_wp2_with fail
  clear lf cf0 cf1
  have b4 := below_new w3 (.cells #[.int .i64 (fN (sigR n d sn)), .int .i64 (fD (sigR n d sn))] 28)
  have y4 := box_new w3 #[.int .i64 (fN (sigR n d sn)), .int .i64 (fD (sigR n d sn))] 28
  have q4 : (w3.alloc (.cells #[.int .i64 (fN (sigR n d sn)), .int .i64 (fD (sigR n d sn))] 28)).heap.size = w3.heap.size + 1 := by simp
  obtain ⟨ga, hga⟩ : ∃ g, w3.heap.size = g := ⟨_, rfl⟩
  generalize w3.alloc (.cells #[.int .i64 (fN (sigR n d sn)), .int .i64 (fD (sigR n d sn))] 28) = w4 at *
  have B4 := B3.trans (b4.mono B3.size)
  replace xf := box_below xf b4
  have S4 := b4.size
  clear b4 B3
  rw [hga] at y4 q4 ⊢
  have xa := y4
  try rw [← q4]
  clear y4 q4 hga
  refine (specSigmaFor_law _ _ _ _).mono ?_
  rintro e w5 ⟨rfl, b5⟩
  have B5 := B4.trans (b5.mono B4.size)
  replace xf := box_below xf b5
  replace xa := box_below xa b5
  have S5 := b5.size
  clear b5 B4
  have HLB : Hid (∀ p q, (sigR n d sn) = some (p, q) → lossR p q sn = none ∨ lossR p q sn = some (n, d)) := Lib.hid fun p q h => loss_back h
  cases hR : (sigR n d sn) with
  | none =>
    rw [hR] at xa
    simp only [fN, fD, fB] at xa ⊢
    clear hR HLB
    have la := lt_of_block xa
    have ca0 := box_cell xa 0 _ rfl
    have ca1 := box_cell xa 1 _ rfl
    go_wp2_with fail
    clear la ca0 ca1
    have b6 := below_new w5 (.cells #[.int .i64 0, .int .i64 0] 28)
    have y6 := box_new w5 #[.int .i64 0, .int .i64 0] 28
    have q6 : (w5.alloc (.cells #[.int .i64 0, .int .i64 0] 28)).heap.size = w5.heap.size + 1 := by simp
    obtain ⟨gb, hgb⟩ : ∃ g, w5.heap.size = g := ⟨_, rfl⟩
    generalize w5.alloc (.cells #[.int .i64 0, .int .i64 0] 28) = w6 at *
    have B6 := B5.trans (b6.mono B5.size)
    replace xf := box_below xf b6
    replace xa := box_below xa b6
    have S6 := b6.size
    clear b6 B5
    rw [hgb] at y6 q6 ⊢
    have xb := y6
    try rw [← q6]
    clear y6 q6 hgb
    clear xf xa xb
    refine (drawLogRatio_any _ _ _ _ (hb0.out.below B6) hn0).mono ?_
    rintro e w7 ⟨p, q, i, j, rfl, b7⟩
    have B7 := B6.trans (b7.mono B6.size)
    have S7 := b7.size
    clear b7 B6
    go_wp2_with fail
    have b8 := below_new w7 (.cells #[.int .i64 p, .int .i64 q] 28)
    have y8 := box_new w7 #[.int .i64 p, .int .i64 q] 28
    have q8 : (w7.alloc (.cells #[.int .i64 p, .int .i64 q] 28)).heap.size = w7.heap.size + 1 := by simp
    obtain ⟨gg, hgg⟩ : ∃ g, w7.heap.size = g := ⟨_, rfl⟩
    generalize w7.alloc (.cells #[.int .i64 p, .int .i64 q] 28) = w8 at *
    have B8 := B7.trans (b8.mono B7.size)
    have S8 := b8.size
    clear b8 B7
    rw [hgg] at y8 q8 ⊢
    have xg := y8
    try rw [← q8]
    clear y8 q8 hgg
    refine (implLogRatio_law _ _ _ _ _).mono ?_
    rintro e w9 ⟨rfl, b9⟩
    have B9 := B8.trans (b9.mono B8.size)
    replace xg := box_below xg b9
    have S9 := b9.size
    clear b9 B8
    have hl1 := logR_sm p q i j
    have hl2 := map_neg (logR p q i j)
    rw [← logR_swap] at hl2
    have HN1 := Lib.hid hl2.1
    have HN2 := Lib.hid hl2.2.1
    have HN3 := Lib.hid hl2.2.2
    clear hl2
    obtain ⟨x1, hx1⟩ : ∃ x, fN (logR p q i j) = x := ⟨_, rfl⟩
    obtain ⟨y1, hy1⟩ : ∃ x, fD (logR p q i j) = x := ⟨_, rfl⟩
    obtain ⟨z1', hz1⟩ : ∃ x, fB (logR p q i j) = x := ⟨_, rfl⟩
    rw [hx1] at hl1 HN1 ⊢
    rw [hy1] at HN2 ⊢
    rw [hz1] at HN3 ⊢
    have HX := Lib.hid hx1
    have HY := Lib.hid hy1
    have HZ := Lib.hid hz1
    clear hx1 hy1 hz1
    have hl3 := hl1.1
    have hl4 := hl1.2
    clear hl1
    have lg := lt_of_block xg
    have cg0 := box_cell xg 0 _ rfl
    have cg1 := box_cell xg 1 _ rfl
    go_wp2_with fail
    clear lg cg0 cg1
    have b10 := below_new w9 (.cells #[.int .i64 x1, .int .i64 y1] 28)
    have y10 := box_new w9 #[.int .i64 x1, .int .i64 y1] 28
    have q10 : (w9.alloc (.cells #[.int .i64 x1, .int .i64 y1] 28)).heap.size = w9.heap.size + 1 := by simp
    obtain ⟨gh, hgh⟩ : ∃ g, w9.heap.size = g := ⟨_, rfl⟩
    generalize w9.alloc (.cells #[.int .i64 x1, .int .i64 y1] 28) = w10 at *
    have B10 := B9.trans (b10.mono B9.size)
    replace xg := box_below xg b10
    have S10 := b10.size
    clear b10 B9
    rw [hgh] at y10 q10 ⊢
    have xh := y10
    try rw [← q10]
    clear y10 q10 hgh
    refine (specLogRatio_law _ _ _ _ _).mono ?_
    rintro e w11 ⟨rfl, b11⟩
    have B11 := B10.trans (b11.mono B10.size)
    replace xg := box_below xg b11
    replace xh := box_below xh b11
    have S11 := b11.size
    clear b11 B10
    rw [HX.out, HY.out, HZ.out]
    have lg := lt_of_block xg
    have cg0 := box_cell xg 0 _ rfl
    have cg1 := box_cell xg 1 _ rfl
    go_wp2_with fail
    clear lg cg0 cg1
    have b12 := below_new w11 (.cells #[.int .i64 x1, .int .i64 y1] 28)
    have y12 := box_new w11 #[.int .i64 x1, .int .i64 y1] 28
    have q12 : (w11.alloc (.cells #[.int .i64 x1, .int .i64 y1] 28)).heap.size = w11.heap.size + 1 := by simp
    obtain ⟨gk, hgk⟩ : ∃ g, w11.heap.size = g := ⟨_, rfl⟩
    generalize w11.alloc (.cells #[.int .i64 x1, .int .i64 y1] 28) = w12 at *
    have B12 := B11.trans (b12.mono B11.size)
    replace xg := box_below xg b12
    replace xh := box_below xh b12
    have S12 := b12.size
    clear b12 B11
    rw [hgk] at y12 q12 ⊢
    have xk := y12
    try rw [← q12]
    clear y12 q12 hgk
    refine (implLogRatio_law _ _ _ _ _).mono ?_
    rintro e w13 ⟨rfl, b13⟩
    have B13 := B12.trans (b13.mono B12.size)
    replace xg := box_below xg b13
    replace xh := box_below xh b13
    replace xk := box_below xk b13
    have S13 := b13.size
    clear b13 B12
    rw [HN1.out, HN2.out, HN3.out]
    clear HN1 HN2 HN3 HX HY HZ
    have lh := lt_of_block xh
    have ch0 := box_cell xh 0 _ rfl
    have ch1 := box_cell xh 1 _ rfl
    have lk := lt_of_block xk
    have ck0 := box_cell xk 0 _ rfl
    have ck1 := box_cell xk 1 _ rfl
    go_wp2_with fail
    clear lh ch0 ch1 lk ck0 ck1
    have b14 := below_new w13 (.cells #[.int .i64 (-x1), .int .i64 y1] 28)
    have y14 := box_new w13 #[.int .i64 (-x1), .int .i64 y1] 28
    have q14 : (w13.alloc (.cells #[.int .i64 (-x1), .int .i64 y1] 28)).heap.size = w13.heap.size + 1 := by simp
    obtain ⟨gm, hgm⟩ : ∃ g, w13.heap.size = g := ⟨_, rfl⟩
    generalize w13.alloc (.cells #[.int .i64 (-x1), .int .i64 y1] 28) = w14 at *
    have B14 := B13.trans (b14.mono B13.size)
    replace xg := box_below xg b14
    replace xh := box_below xh b14
    replace xk := box_below xk b14
    have S14 := b14.size
    clear b14 B13
    rw [hgm] at y14 q14 ⊢
    have xm := y14
    try rw [← q14]
    clear y14 q14 hgm
    clear xg xh xk xm
    refine (drawGaussSample_any _ _ _ _ (hb1.out.below B14) hn1).mono ?_
    rintro e w15 ⟨s1, s2, u1, u2, rfl, b15⟩
    have B15 := B14.trans (b15.mono B14.size)
    have S15 := b15.size
    clear b15 B14
    go_wp2_with fail
    have b16 := below_new w15 (.cells #[.int .i64 s1, .int .i64 s2] 38)
    have y16 := box_new w15 #[.int .i64 s1, .int .i64 s2] 38
    have q16 : (w15.alloc (.cells #[.int .i64 s1, .int .i64 s2] 38)).heap.size = w15.heap.size + 1 := by simp
    obtain ⟨gs, hgs⟩ : ∃ g, w15.heap.size = g := ⟨_, rfl⟩
    generalize w15.alloc (.cells #[.int .i64 s1, .int .i64 s2] 38) = w16 at *
    have B16 := B15.trans (b16.mono B15.size)
    have S16 := b16.size
    clear b16 B15
    rw [hgs] at y16 q16 ⊢
    have xs := y16
    try rw [← q16]
    clear y16 q16 hgs
    have b17 := below_new w16 (.cells #[.int .i64 u1, .int .i64 u2] 28)
    have y17 := box_new w16 #[.int .i64 u1, .int .i64 u2] 28
    have q17 : (w16.alloc (.cells #[.int .i64 u1, .int .i64 u2] 28)).heap.size = w16.heap.size + 1 := by simp
    obtain ⟨gu, hgu⟩ : ∃ g, w16.heap.size = g := ⟨_, rfl⟩
    generalize w16.alloc (.cells #[.int .i64 u1, .int .i64 u2] 28) = w17 at *
    have B17 := B16.trans (b17.mono B16.size)
    replace xs := box_below xs b17
    have S17 := b17.size
    clear b17 B16
    rw [hgu] at y17 q17 ⊢
    have xu := y17
    try rw [← q17]
    clear y17 q17 hgu
    refine (implGaussSample_law _ _ _ _ _).mono ?_
    rintro e w18 ⟨rfl, b18⟩
    have B18 := B17.trans (b18.mono B17.size)
    replace xs := box_below xs b18
    replace xu := box_below xu b18
    have S18 := b18.size
    clear b18 B17
    have ls := lt_of_block xs
    have cs0 := box_cell xs 0 _ rfl
    have cs1 := box_cell xs 1 _ rfl
    have lu := lt_of_block xu
    have cu0 := box_cell xu 0 _ rfl
    have cu1 := box_cell xu 1 _ rfl
    go_wp2_with fail
    clear ls cs0 cs1 lu cu0 cu1
    have b19 := below_new w18 (.cells #[.int .i64 (oS s1 (gauR s1 s2 u1 u2)), .int .i64 (oA (gauR s1 s2 u1 u2))] 38)
    have y19 := box_new w18 #[.int .i64 (oS s1 (gauR s1 s2 u1 u2)), .int .i64 (oA (gauR s1 s2 u1 u2))] 38
    have q19 : (w18.alloc (.cells #[.int .i64 (oS s1 (gauR s1 s2 u1 u2)), .int .i64 (oA (gauR s1 s2 u1 u2))] 38)).heap.size = w18.heap.size + 1 := by simp
    obtain ⟨gc, hgc⟩ : ∃ g, w18.heap.size = g := ⟨_, rfl⟩
    generalize w18.alloc (.cells #[.int .i64 (oS s1 (gauR s1 s2 u1 u2)), .int .i64 (oA (gauR s1 s2 u1 u2))] 38) = w19 at *
    have B19 := B18.trans (b19.mono B18.size)
    replace xs := box_below xs b19
    replace xu := box_below xu b19
    have S19 := b19.size
    clear b19 B18
    rw [hgc] at y19 q19 ⊢
    have xc := y19
    try rw [← q19]
    clear y19 q19 hgc
    refine (specGaussSample_law _ _ _ _ _).mono ?_
    rintro e w20 ⟨rfl, b20⟩
    have B20 := B19.trans (b20.mono B19.size)
    replace xs := box_below xs b20
    replace xu := box_below xu b20
    replace xc := box_below xc b20
    have S20 := b20.size
    clear b20 B19
    have lc := lt_of_block xc
    have cc0 := box_cell xc 0 _ rfl
    have cc1 := box_cell xc 1 _ rfl
    go_wp2_with fail
    clear lc cc0 cc1
    have b21 := below_new w20 (.cells #[.int .i64 (oS s1 (gauR s1 s2 u1 u2)), .int .i64 (oA (gauR s1 s2 u1 u2))] 38)
    have y21 := box_new w20 #[.int .i64 (oS s1 (gauR s1 s2 u1 u2)), .int .i64 (oA (gauR s1 s2 u1 u2))] 38
    have q21 : (w20.alloc (.cells #[.int .i64 (oS s1 (gauR s1 s2 u1 u2)), .int .i64 (oA (gauR s1 s2 u1 u2))] 38)).heap.size = w20.heap.size + 1 := by simp
    obtain ⟨ge, hge⟩ : ∃ g, w20.heap.size = g := ⟨_, rfl⟩
    generalize w20.alloc (.cells #[.int .i64 (oS s1 (gauR s1 s2 u1 u2)), .int .i64 (oA (gauR s1 s2 u1 u2))] 38) = w21 at *
    have B21 := B20.trans (b21.mono B20.size)
    replace xs := box_below xs b21
    replace xu := box_below xu b21
    replace xc := box_below xc b21
    have S21 := b21.size
    clear b21 B20
    rw [hge] at y21 q21 ⊢
    have xe := y21
    try rw [← q21]
    clear y21 q21 hge
    clear xs xu xc xe
    refine (drawLaplaceSample_any _ _ _ _ (hb1.out.below B21) hn1).mono ?_
    rintro e w22 ⟨t1, t2, sc, rfl, b22⟩
    have B22 := B21.trans (b22.mono B21.size)
    have S22 := b22.size
    clear b22 B21
    go_wp2_with fail
    have b23 := below_new w22 (.cells #[.int .i64 t1, .int .i64 t2] 38)
    have y23 := box_new w22 #[.int .i64 t1, .int .i64 t2] 38
    have q23 : (w22.alloc (.cells #[.int .i64 t1, .int .i64 t2] 38)).heap.size = w22.heap.size + 1 := by simp
    obtain ⟨gs, hgs⟩ : ∃ g, w22.heap.size = g := ⟨_, rfl⟩
    generalize w22.alloc (.cells #[.int .i64 t1, .int .i64 t2] 38) = w23 at *
    have B23 := B22.trans (b23.mono B22.size)
    have S23 := b23.size
    clear b23 B22
    rw [hgs] at y23 q23 ⊢
    have xs := y23
    try rw [← q23]
    clear y23 q23 hgs
    refine (implLaplaceSample_law _ _ _ _).mono ?_
    rintro e w24 ⟨rfl, b24⟩
    have B24 := B23.trans (b24.mono B23.size)
    replace xs := box_below xs b24
    have S24 := b24.size
    clear b24 B23
    have ls := lt_of_block xs
    have cs0 := box_cell xs 0 _ rfl
    have cs1 := box_cell xs 1 _ rfl
    go_wp2_with fail
    clear ls cs0 cs1
    have b25 := below_new w24 (.cells #[.int .i64 (oS t1 (lapR t1 t2 sc)), .int .i64 (oA (lapR t1 t2 sc))] 38)
    have y25 := box_new w24 #[.int .i64 (oS t1 (lapR t1 t2 sc)), .int .i64 (oA (lapR t1 t2 sc))] 38
    have q25 : (w24.alloc (.cells #[.int .i64 (oS t1 (lapR t1 t2 sc)), .int .i64 (oA (lapR t1 t2 sc))] 38)).heap.size = w24.heap.size + 1 := by simp
    obtain ⟨gc, hgc⟩ : ∃ g, w24.heap.size = g := ⟨_, rfl⟩
    generalize w24.alloc (.cells #[.int .i64 (oS t1 (lapR t1 t2 sc)), .int .i64 (oA (lapR t1 t2 sc))] 38) = w25 at *
    have B25 := B24.trans (b25.mono B24.size)
    replace xs := box_below xs b25
    have S25 := b25.size
    clear b25 B24
    rw [hgc] at y25 q25 ⊢
    have xc := y25
    try rw [← q25]
    clear y25 q25 hgc
    refine (specLaplaceSample_law _ _ _ _).mono ?_
    rintro e w26 ⟨rfl, b26⟩
    have B26 := B25.trans (b26.mono B25.size)
    replace xs := box_below xs b26
    replace xc := box_below xc b26
    have S26 := b26.size
    clear b26 B25
    have lc := lt_of_block xc
    have cc0 := box_cell xc 0 _ rfl
    have cc1 := box_cell xc 1 _ rfl
    go_wp2_with fail
    clear lc cc0 cc1
    have b27 := below_new w26 (.cells #[.int .i64 (oS t1 (lapR t1 t2 sc)), .int .i64 (oA (lapR t1 t2 sc))] 38)
    have y27 := box_new w26 #[.int .i64 (oS t1 (lapR t1 t2 sc)), .int .i64 (oA (lapR t1 t2 sc))] 38
    have q27 : (w26.alloc (.cells #[.int .i64 (oS t1 (lapR t1 t2 sc)), .int .i64 (oA (lapR t1 t2 sc))] 38)).heap.size = w26.heap.size + 1 := by simp
    obtain ⟨ge, hge⟩ : ∃ g, w26.heap.size = g := ⟨_, rfl⟩
    generalize w26.alloc (.cells #[.int .i64 (oS t1 (lapR t1 t2 sc)), .int .i64 (oA (lapR t1 t2 sc))] 38) = w27 at *
    have B27 := B26.trans (b27.mono B26.size)
    replace xs := box_below xs b27
    replace xc := box_below xc b27
    have S27 := b27.size
    clear b27 B26
    rw [hge] at y27 q27 ⊢
    have xe := y27
    try rw [← q27]
    clear y27 q27 hge
    clear xs xc xe
    refine (drawAcceptExponent_any _ _ _ _ (hb1.out.below B27) hn1).mono ?_
    rintro e w28 ⟨v1, v2, ky, rfl, b28⟩
    have B28 := B27.trans (b28.mono B27.size)
    have S28 := b28.size
    clear b28 B27
    go_wp2_with fail
    have b29 := below_new w28 (.cells #[.int .i64 v1, .int .i64 v2] 28)
    have y29 := box_new w28 #[.int .i64 v1, .int .i64 v2] 28
    have q29 : (w28.alloc (.cells #[.int .i64 v1, .int .i64 v2] 28)).heap.size = w28.heap.size + 1 := by simp
    obtain ⟨gf, hgf⟩ : ∃ g, w28.heap.size = g := ⟨_, rfl⟩
    generalize w28.alloc (.cells #[.int .i64 v1, .int .i64 v2] 28) = w29 at *
    have B29 := B28.trans (b29.mono B28.size)
    have S29 := b29.size
    clear b29 B28
    rw [hgf] at y29 q29 ⊢
    have xf := y29
    try rw [← q29]
    clear y29 q29 hgf
    refine (implAcceptExponent_law _ _ _ _).mono ?_
    rintro e w30 ⟨rfl, b30⟩
    have B30 := B29.trans (b30.mono B29.size)
    replace xf := box_below xf b30
    have S30 := b30.size
    clear b30 B29
    have hnn := accR_nn v1 v2 ky
    have lf := lt_of_block xf
    have cf0 := box_cell xf 0 _ rfl
    have cf1 := box_cell xf 1 _ rfl
    go_wp2_with fail
    clear lf cf0 cf1
    have b31 := below_new w30 (.cells #[.int .i64 (fN (accR v1 v2 ky)), .int .i64 (fD (accR v1 v2 ky))] 28)
    have y31 := box_new w30 #[.int .i64 (fN (accR v1 v2 ky)), .int .i64 (fD (accR v1 v2 ky))] 28
    have q31 : (w30.alloc (.cells #[.int .i64 (fN (accR v1 v2 ky)), .int .i64 (fD (accR v1 v2 ky))] 28)).heap.size = w30.heap.size + 1 := by simp
    obtain ⟨gc, hgc⟩ : ∃ g, w30.heap.size = g := ⟨_, rfl⟩
    generalize w30.alloc (.cells #[.int .i64 (fN (accR v1 v2 ky)), .int .i64 (fD (accR v1 v2 ky))] 28) = w31 at *
    have B31 := B30.trans (b31.mono B30.size)
    replace xf := box_below xf b31
    have S31 := b31.size
    clear b31 B30
    rw [hgc] at y31 q31 ⊢
    have xc := y31
    try rw [← q31]
    clear y31 q31 hgc
    refine (specAcceptExponent_law _ _ _ _).mono ?_
    rintro e w32 ⟨rfl, b32⟩
    have B32 := B31.trans (b32.mono B31.size)
    replace xf := box_below xf b32
    replace xc := box_below xc b32
    have S32 := b32.size
    clear b32 B31
    have lc := lt_of_block xc
    have cc0 := box_cell xc 0 _ rfl
    have cc1 := box_cell xc 1 _ rfl
    go_wp2
    go_ret
    exact ⟨rfl, B32.trans ((below_new _ _).mono B32.size)⟩
  | some r =>
    obtain ⟨p0, q0⟩ := r
    have hlb := HLB.out p0 q0 hR
    rw [hR] at xa
    simp only [fN, fD, fB] at xa ⊢
    clear hR HLB
    have la := lt_of_block xa
    have ca0 := box_cell xa 0 _ rfl
    have ca1 := box_cell xa 1 _ rfl
    go_wp2_with fail
    clear la ca0 ca1
    have b33 := below_new w5 (.cells #[.int .i64 p0, .int .i64 q0] 28)
    have y33 := box_new w5 #[.int .i64 p0, .int .i64 q0] 28
    have q33 : (w5.alloc (.cells #[.int .i64 p0, .int .i64 q0] 28)).heap.size = w5.heap.size + 1 := by simp
    obtain ⟨gb, hgb⟩ : ∃ g, w5.heap.size = g := ⟨_, rfl⟩
    generalize w5.alloc (.cells #[.int .i64 p0, .int .i64 q0] 28) = w33 at *
    have B33 := B5.trans (b33.mono B5.size)
    replace xf := box_below xf b33
    replace xa := box_below xa b33
    have S33 := b33.size
    clear b33 B5
    rw [hgb] at y33 q33 ⊢
    have xb := y33
    try rw [← q33]
    clear y33 q33 hgb
    refine (implLossOf_law _ _ _ _).mono ?_
    rintro e w34 ⟨rfl, b34⟩
    have B34 := B33.trans (b34.mono B33.size)
    replace xf := box_below xf b34
    replace xa := box_below xa b34
    replace xb := box_below xb b34
    have S34 := b34.size
    clear b34 B33
    rcases hlb with hlb | hlb
    · rw [hlb]
      simp only [fN, fD, fB]
      clear hlb
      have lf := lt_of_block xf
      have cf0 := box_cell xf 0 _ rfl
      have cf1 := box_cell xf 1 _ rfl
      go_wp2_with fail
      clear lf cf0 cf1
      have b35 := below_new w34 (.cells #[.int .i64 0, .int .i64 0] 28)
      have y35 := box_new w34 #[.int .i64 0, .int .i64 0] 28
      have q35 : (w34.alloc (.cells #[.int .i64 0, .int .i64 0] 28)).heap.size = w34.heap.size + 1 := by simp
      obtain ⟨gz, hgz⟩ : ∃ g, w34.heap.size = g := ⟨_, rfl⟩
      generalize w34.alloc (.cells #[.int .i64 0, .int .i64 0] 28) = w35 at *
      have B35 := B34.trans (b35.mono B34.size)
      replace xf := box_below xf b35
      replace xa := box_below xa b35
      replace xb := box_below xb b35
      have S35 := b35.size
      clear b35 B34
      rw [hgz] at y35 q35 ⊢
      have xz := y35
      try rw [← q35]
      clear y35 q35 hgz
      clear xf xa xb xz
      refine (drawLogRatio_any _ _ _ _ (hb0.out.below B35) hn0).mono ?_
      rintro e w36 ⟨p, q, i, j, rfl, b36⟩
      have B36 := B35.trans (b36.mono B35.size)
      have S36 := b36.size
      clear b36 B35
      go_wp2_with fail
      have b37 := below_new w36 (.cells #[.int .i64 p, .int .i64 q] 28)
      have y37 := box_new w36 #[.int .i64 p, .int .i64 q] 28
      have q37 : (w36.alloc (.cells #[.int .i64 p, .int .i64 q] 28)).heap.size = w36.heap.size + 1 := by simp
      obtain ⟨gg, hgg⟩ : ∃ g, w36.heap.size = g := ⟨_, rfl⟩
      generalize w36.alloc (.cells #[.int .i64 p, .int .i64 q] 28) = w37 at *
      have B37 := B36.trans (b37.mono B36.size)
      have S37 := b37.size
      clear b37 B36
      rw [hgg] at y37 q37 ⊢
      have xg := y37
      try rw [← q37]
      clear y37 q37 hgg
      refine (implLogRatio_law _ _ _ _ _).mono ?_
      rintro e w38 ⟨rfl, b38⟩
      have B38 := B37.trans (b38.mono B37.size)
      replace xg := box_below xg b38
      have S38 := b38.size
      clear b38 B37
      have hl1 := logR_sm p q i j
      have hl2 := map_neg (logR p q i j)
      rw [← logR_swap] at hl2
      have HN1 := Lib.hid hl2.1
      have HN2 := Lib.hid hl2.2.1
      have HN3 := Lib.hid hl2.2.2
      clear hl2
      obtain ⟨x1, hx1⟩ : ∃ x, fN (logR p q i j) = x := ⟨_, rfl⟩
      obtain ⟨y1, hy1⟩ : ∃ x, fD (logR p q i j) = x := ⟨_, rfl⟩
      obtain ⟨z1', hz1⟩ : ∃ x, fB (logR p q i j) = x := ⟨_, rfl⟩
      rw [hx1] at hl1 HN1 ⊢
      rw [hy1] at HN2 ⊢
      rw [hz1] at HN3 ⊢
      have HX := Lib.hid hx1
      have HY := Lib.hid hy1
      have HZ := Lib.hid hz1
      clear hx1 hy1 hz1
      have hl3 := hl1.1
      have hl4 := hl1.2
      clear hl1
      have lg := lt_of_block xg
      have cg0 := box_cell xg 0 _ rfl
      have cg1 := box_cell xg 1 _ rfl
      go_wp2_with fail
      clear lg cg0 cg1
      have b39 := below_new w38 (.cells #[.int .i64 x1, .int .i64 y1] 28)
      have y39 := box_new w38 #[.int .i64 x1, .int .i64 y1] 28
      have q39 : (w38.alloc (.cells #[.int .i64 x1, .int .i64 y1] 28)).heap.size = w38.heap.size + 1 := by simp
      obtain ⟨gh, hgh⟩ : ∃ g, w38.heap.size = g := ⟨_, rfl⟩
      generalize w38.alloc (.cells #[.int .i64 x1, .int .i64 y1] 28) = w39 at *
      have B39 := B38.trans (b39.mono B38.size)
      replace xg := box_below xg b39
      have S39 := b39.size
      clear b39 B38
      rw [hgh] at y39 q39 ⊢
      have xh := y39
      try rw [← q39]
      clear y39 q39 hgh
      refine (specLogRatio_law _ _ _ _ _).mono ?_
      rintro e w40 ⟨rfl, b40⟩
      have B40 := B39.trans (b40.mono B39.size)
      replace xg := box_below xg b40
      replace xh := box_below xh b40
      have S40 := b40.size
      clear b40 B39
      rw [HX.out, HY.out, HZ.out]
      have lg := lt_of_block xg
      have cg0 := box_cell xg 0 _ rfl
      have cg1 := box_cell xg 1 _ rfl
      go_wp2_with fail
      clear lg cg0 cg1
      have b41 := below_new w40 (.cells #[.int .i64 x1, .int .i64 y1] 28)
      have y41 := box_new w40 #[.int .i64 x1, .int .i64 y1] 28
      have q41 : (w40.alloc (.cells #[.int .i64 x1, .int .i64 y1] 28)).heap.size = w40.heap.size + 1 := by simp
      obtain ⟨gk, hgk⟩ : ∃ g, w40.heap.size = g := ⟨_, rfl⟩
      generalize w40.alloc (.cells #[.int .i64 x1, .int .i64 y1] 28) = w41 at *
      have B41 := B40.trans (b41.mono B40.size)
      replace xg := box_below xg b41
      replace xh := box_below xh b41
      have S41 := b41.size
      clear b41 B40
      rw [hgk] at y41 q41 ⊢
      have xk := y41
      try rw [← q41]
      clear y41 q41 hgk
      refine (implLogRatio_law _ _ _ _ _).mono ?_
      rintro e w42 ⟨rfl, b42⟩
      have B42 := B41.trans (b42.mono B41.size)
      replace xg := box_below xg b42
      replace xh := box_below xh b42
      replace xk := box_below xk b42
      have S42 := b42.size
      clear b42 B41
      rw [HN1.out, HN2.out, HN3.out]
      clear HN1 HN2 HN3 HX HY HZ
      have lh := lt_of_block xh
      have ch0 := box_cell xh 0 _ rfl
      have ch1 := box_cell xh 1 _ rfl
      have lk := lt_of_block xk
      have ck0 := box_cell xk 0 _ rfl
      have ck1 := box_cell xk 1 _ rfl
      go_wp2_with fail
      clear lh ch0 ch1 lk ck0 ck1
      have b43 := below_new w42 (.cells #[.int .i64 (-x1), .int .i64 y1] 28)
      have y43 := box_new w42 #[.int .i64 (-x1), .int .i64 y1] 28
      have q43 : (w42.alloc (.cells #[.int .i64 (-x1), .int .i64 y1] 28)).heap.size = w42.heap.size + 1 := by simp
      obtain ⟨gm, hgm⟩ : ∃ g, w42.heap.size = g := ⟨_, rfl⟩
      generalize w42.alloc (.cells #[.int .i64 (-x1), .int .i64 y1] 28) = w43 at *
      have B43 := B42.trans (b43.mono B42.size)
      replace xg := box_below xg b43
      replace xh := box_below xh b43
      replace xk := box_below xk b43
      have S43 := b43.size
      clear b43 B42
      rw [hgm] at y43 q43 ⊢
      have xm := y43
      try rw [← q43]
      clear y43 q43 hgm
      clear xg xh xk xm
      refine (drawGaussSample_any _ _ _ _ (hb1.out.below B43) hn1).mono ?_
      rintro e w44 ⟨s1, s2, u1, u2, rfl, b44⟩
      have B44 := B43.trans (b44.mono B43.size)
      have S44 := b44.size
      clear b44 B43
      go_wp2_with fail
      have b45 := below_new w44 (.cells #[.int .i64 s1, .int .i64 s2] 38)
      have y45 := box_new w44 #[.int .i64 s1, .int .i64 s2] 38
      have q45 : (w44.alloc (.cells #[.int .i64 s1, .int .i64 s2] 38)).heap.size = w44.heap.size + 1 := by simp
      obtain ⟨gs, hgs⟩ : ∃ g, w44.heap.size = g := ⟨_, rfl⟩
      generalize w44.alloc (.cells #[.int .i64 s1, .int .i64 s2] 38) = w45 at *
      have B45 := B44.trans (b45.mono B44.size)
      have S45 := b45.size
      clear b45 B44
      rw [hgs] at y45 q45 ⊢
      have xs := y45
      try rw [← q45]
      clear y45 q45 hgs
      have b46 := below_new w45 (.cells #[.int .i64 u1, .int .i64 u2] 28)
      have y46 := box_new w45 #[.int .i64 u1, .int .i64 u2] 28
      have q46 : (w45.alloc (.cells #[.int .i64 u1, .int .i64 u2] 28)).heap.size = w45.heap.size + 1 := by simp
      obtain ⟨gu, hgu⟩ : ∃ g, w45.heap.size = g := ⟨_, rfl⟩
      generalize w45.alloc (.cells #[.int .i64 u1, .int .i64 u2] 28) = w46 at *
      have B46 := B45.trans (b46.mono B45.size)
      replace xs := box_below xs b46
      have S46 := b46.size
      clear b46 B45
      rw [hgu] at y46 q46 ⊢
      have xu := y46
      try rw [← q46]
      clear y46 q46 hgu
      refine (implGaussSample_law _ _ _ _ _).mono ?_
      rintro e w47 ⟨rfl, b47⟩
      have B47 := B46.trans (b47.mono B46.size)
      replace xs := box_below xs b47
      replace xu := box_below xu b47
      have S47 := b47.size
      clear b47 B46
      have ls := lt_of_block xs
      have cs0 := box_cell xs 0 _ rfl
      have cs1 := box_cell xs 1 _ rfl
      have lu := lt_of_block xu
      have cu0 := box_cell xu 0 _ rfl
      have cu1 := box_cell xu 1 _ rfl
      go_wp2_with fail
      clear ls cs0 cs1 lu cu0 cu1
      have b48 := below_new w47 (.cells #[.int .i64 (oS s1 (gauR s1 s2 u1 u2)), .int .i64 (oA (gauR s1 s2 u1 u2))] 38)
      have y48 := box_new w47 #[.int .i64 (oS s1 (gauR s1 s2 u1 u2)), .int .i64 (oA (gauR s1 s2 u1 u2))] 38
      have q48 : (w47.alloc (.cells #[.int .i64 (oS s1 (gauR s1 s2 u1 u2)), .int .i64 (oA (gauR s1 s2 u1 u2))] 38)).heap.size = w47.heap.size + 1 := by simp
      obtain ⟨gc, hgc⟩ : ∃ g, w47.heap.size = g := ⟨_, rfl⟩
      generalize w47.alloc (.cells #[.int .i64 (oS s1 (gauR s1 s2 u1 u2)), .int .i64 (oA (gauR s1 s2 u1 u2))] 38) = w48 at *
      have B48 := B47.trans (b48.mono B47.size)
      replace xs := box_below xs b48
      replace xu := box_below xu b48
      have S48 := b48.size
      clear b48 B47
      rw [hgc] at y48 q48 ⊢
      have xc := y48
      try rw [← q48]
      clear y48 q48 hgc
      refine (specGaussSample_law _ _ _ _ _).mono ?_
      rintro e w49 ⟨rfl, b49⟩
      have B49 := B48.trans (b49.mono B48.size)
      replace xs := box_below xs b49
      replace xu := box_below xu b49
      replace xc := box_below xc b49
      have S49 := b49.size
      clear b49 B48
      have lc := lt_of_block xc
      have cc0 := box_cell xc 0 _ rfl
      have cc1 := box_cell xc 1 _ rfl
      go_wp2_with fail
      clear lc cc0 cc1
      have b50 := below_new w49 (.cells #[.int .i64 (oS s1 (gauR s1 s2 u1 u2)), .int .i64 (oA (gauR s1 s2 u1 u2))] 38)
      have y50 := box_new w49 #[.int .i64 (oS s1 (gauR s1 s2 u1 u2)), .int .i64 (oA (gauR s1 s2 u1 u2))] 38
      have q50 : (w49.alloc (.cells #[.int .i64 (oS s1 (gauR s1 s2 u1 u2)), .int .i64 (oA (gauR s1 s2 u1 u2))] 38)).heap.size = w49.heap.size + 1 := by simp
      obtain ⟨ge, hge⟩ : ∃ g, w49.heap.size = g := ⟨_, rfl⟩
      generalize w49.alloc (.cells #[.int .i64 (oS s1 (gauR s1 s2 u1 u2)), .int .i64 (oA (gauR s1 s2 u1 u2))] 38) = w50 at *
      have B50 := B49.trans (b50.mono B49.size)
      replace xs := box_below xs b50
      replace xu := box_below xu b50
      replace xc := box_below xc b50
      have S50 := b50.size
      clear b50 B49
      rw [hge] at y50 q50 ⊢
      have xe := y50
      try rw [← q50]
      clear y50 q50 hge
      clear xs xu xc xe
      refine (drawLaplaceSample_any _ _ _ _ (hb1.out.below B50) hn1).mono ?_
      rintro e w51 ⟨t1, t2, sc, rfl, b51⟩
      have B51 := B50.trans (b51.mono B50.size)
      have S51 := b51.size
      clear b51 B50
      go_wp2_with fail
      have b52 := below_new w51 (.cells #[.int .i64 t1, .int .i64 t2] 38)
      have y52 := box_new w51 #[.int .i64 t1, .int .i64 t2] 38
      have q52 : (w51.alloc (.cells #[.int .i64 t1, .int .i64 t2] 38)).heap.size = w51.heap.size + 1 := by simp
      obtain ⟨gs, hgs⟩ : ∃ g, w51.heap.size = g := ⟨_, rfl⟩
      generalize w51.alloc (.cells #[.int .i64 t1, .int .i64 t2] 38) = w52 at *
      have B52 := B51.trans (b52.mono B51.size)
      have S52 := b52.size
      clear b52 B51
      rw [hgs] at y52 q52 ⊢
      have xs := y52
      try rw [← q52]
      clear y52 q52 hgs
      refine (implLaplaceSample_law _ _ _ _).mono ?_
      rintro e w53 ⟨rfl, b53⟩
      have B53 := B52.trans (b53.mono B52.size)
      replace xs := box_below xs b53
      have S53 := b53.size
      clear b53 B52
      have ls := lt_of_block xs
      have cs0 := box_cell xs 0 _ rfl
      have cs1 := box_cell xs 1 _ rfl
      go_wp2_with fail
      clear ls cs0 cs1
      have b54 := below_new w53 (.cells #[.int .i64 (oS t1 (lapR t1 t2 sc)), .int .i64 (oA (lapR t1 t2 sc))] 38)
      have y54 := box_new w53 #[.int .i64 (oS t1 (lapR t1 t2 sc)), .int .i64 (oA (lapR t1 t2 sc))] 38
      have q54 : (w53.alloc (.cells #[.int .i64 (oS t1 (lapR t1 t2 sc)), .int .i64 (oA (lapR t1 t2 sc))] 38)).heap.size = w53.heap.size + 1 := by simp
      obtain ⟨gc, hgc⟩ : ∃ g, w53.heap.size = g := ⟨_, rfl⟩
      generalize w53.alloc (.cells #[.int .i64 (oS t1 (lapR t1 t2 sc)), .int .i64 (oA (lapR t1 t2 sc))] 38) = w54 at *
      have B54 := B53.trans (b54.mono B53.size)
      replace xs := box_below xs b54
      have S54 := b54.size
      clear b54 B53
      rw [hgc] at y54 q54 ⊢
      have xc := y54
      try rw [← q54]
      clear y54 q54 hgc
      refine (specLaplaceSample_law _ _ _ _).mono ?_
      rintro e w55 ⟨rfl, b55⟩
      have B55 := B54.trans (b55.mono B54.size)
      replace xs := box_below xs b55
      replace xc := box_below xc b55
      have S55 := b55.size
      clear b55 B54
      have lc := lt_of_block xc
      have cc0 := box_cell xc 0 _ rfl
      have cc1 := box_cell xc 1 _ rfl
      go_wp2_with fail
      clear lc cc0 cc1
      have b56 := below_new w55 (.cells #[.int .i64 (oS t1 (lapR t1 t2 sc)), .int .i64 (oA (lapR t1 t2 sc))] 38)
      have y56 := box_new w55 #[.int .i64 (oS t1 (lapR t1 t2 sc)), .int .i64 (oA (lapR t1 t2 sc))] 38
      have q56 : (w55.alloc (.cells #[.int .i64 (oS t1 (lapR t1 t2 sc)), .int .i64 (oA (lapR t1 t2 sc))] 38)).heap.size = w55.heap.size + 1 := by simp
      obtain ⟨ge, hge⟩ : ∃ g, w55.heap.size = g := ⟨_, rfl⟩
      generalize w55.alloc (.cells #[.int .i64 (oS t1 (lapR t1 t2 sc)), .int .i64 (oA (lapR t1 t2 sc))] 38) = w56 at *
      have B56 := B55.trans (b56.mono B55.size)
      replace xs := box_below xs b56
      replace xc := box_below xc b56
      have S56 := b56.size
      clear b56 B55
      rw [hge] at y56 q56 ⊢
      have xe := y56
      try rw [← q56]
      clear y56 q56 hge
      clear xs xc xe
      refine (drawAcceptExponent_any _ _ _ _ (hb1.out.below B56) hn1).mono ?_
      rintro e w57 ⟨v1, v2, ky, rfl, b57⟩
      have B57 := B56.trans (b57.mono B56.size)
      have S57 := b57.size
      clear b57 B56
      go_wp2_with fail
      have b58 := below_new w57 (.cells #[.int .i64 v1, .int .i64 v2] 28)
      have y58 := box_new w57 #[.int .i64 v1, .int .i64 v2] 28
      have q58 : (w57.alloc (.cells #[.int .i64 v1, .int .i64 v2] 28)).heap.size = w57.heap.size + 1 := by simp
      obtain ⟨gf, hgf⟩ : ∃ g, w57.heap.size = g := ⟨_, rfl⟩
      generalize w57.alloc (.cells #[.int .i64 v1, .int .i64 v2] 28) = w58 at *
      have B58 := B57.trans (b58.mono B57.size)
      have S58 := b58.size
      clear b58 B57
      rw [hgf] at y58 q58 ⊢
      have xf := y58
      try rw [← q58]
      clear y58 q58 hgf
      refine (implAcceptExponent_law _ _ _ _).mono ?_
      rintro e w59 ⟨rfl, b59⟩
      have B59 := B58.trans (b59.mono B58.size)
      replace xf := box_below xf b59
      have S59 := b59.size
      clear b59 B58
      have hnn := accR_nn v1 v2 ky
      have lf := lt_of_block xf
      have cf0 := box_cell xf 0 _ rfl
      have cf1 := box_cell xf 1 _ rfl
      go_wp2_with fail
      clear lf cf0 cf1
      have b60 := below_new w59 (.cells #[.int .i64 (fN (accR v1 v2 ky)), .int .i64 (fD (accR v1 v2 ky))] 28)
      have y60 := box_new w59 #[.int .i64 (fN (accR v1 v2 ky)), .int .i64 (fD (accR v1 v2 ky))] 28
      have q60 : (w59.alloc (.cells #[.int .i64 (fN (accR v1 v2 ky)), .int .i64 (fD (accR v1 v2 ky))] 28)).heap.size = w59.heap.size + 1 := by simp
      obtain ⟨gc, hgc⟩ : ∃ g, w59.heap.size = g := ⟨_, rfl⟩
      generalize w59.alloc (.cells #[.int .i64 (fN (accR v1 v2 ky)), .int .i64 (fD (accR v1 v2 ky))] 28) = w60 at *
      have B60 := B59.trans (b60.mono B59.size)
      replace xf := box_below xf b60
      have S60 := b60.size
      clear b60 B59
      rw [hgc] at y60 q60 ⊢
      have xc := y60
      try rw [← q60]
      clear y60 q60 hgc
      refine (specAcceptExponent_law _ _ _ _).mono ?_
      rintro e w61 ⟨rfl, b61⟩
      have B61 := B60.trans (b61.mono B60.size)
      replace xf := box_below xf b61
      replace xc := box_below xc b61
      have S61 := b61.size
      clear b61 B60
      have lc := lt_of_block xc
      have cc0 := box_cell xc 0 _ rfl
      have cc1 := box_cell xc 1 _ rfl
      go_wp2
      go_ret
      exact ⟨rfl, B61.trans ((below_new _ _).mono B61.size)⟩
    · rw [hlb]
      simp only [fN, fD, fB]
      clear hlb
      have lf := lt_of_block xf
      have cf0 := box_cell xf 0 _ rfl
      have cf1 := box_cell xf 1 _ rfl
      go_wp2_with fail
      clear lf cf0 cf1
      have b62 := below_new w34 (.cells #[.int .i64 n, .int .i64 d] 28)
      have y62 := box_new w34 #[.int .i64 n, .int .i64 d] 28
      have q62 : (w34.alloc (.cells #[.int .i64 n, .int .i64 d] 28)).heap.size = w34.heap.size + 1 := by simp
      obtain ⟨gz, hgz⟩ : ∃ g, w34.heap.size = g := ⟨_, rfl⟩
      generalize w34.alloc (.cells #[.int .i64 n, .int .i64 d] 28) = w62 at *
      have B62 := B34.trans (b62.mono B34.size)
      replace xf := box_below xf b62
      replace xa := box_below xa b62
      replace xb := box_below xb b62
      have S62 := b62.size
      clear b62 B34
      rw [hgz] at y62 q62 ⊢
      have xz := y62
      try rw [← q62]
      clear y62 q62 hgz
      clear xf xa xb xz
      refine (drawLogRatio_any _ _ _ _ (hb0.out.below B62) hn0).mono ?_
      rintro e w63 ⟨p, q, i, j, rfl, b63⟩
      have B63 := B62.trans (b63.mono B62.size)
      have S63 := b63.size
      clear b63 B62
      go_wp2_with fail
      have b64 := below_new w63 (.cells #[.int .i64 p, .int .i64 q] 28)
      have y64 := box_new w63 #[.int .i64 p, .int .i64 q] 28
      have q64 : (w63.alloc (.cells #[.int .i64 p, .int .i64 q] 28)).heap.size = w63.heap.size + 1 := by simp
      obtain ⟨gg, hgg⟩ : ∃ g, w63.heap.size = g := ⟨_, rfl⟩
      generalize w63.alloc (.cells #[.int .i64 p, .int .i64 q] 28) = w64 at *
      have B64 := B63.trans (b64.mono B63.size)
      have S64 := b64.size
      clear b64 B63
      rw [hgg] at y64 q64 ⊢
      have xg := y64
      try rw [← q64]
      clear y64 q64 hgg
      refine (implLogRatio_law _ _ _ _ _).mono ?_
      rintro e w65 ⟨rfl, b65⟩
      have B65 := B64.trans (b65.mono B64.size)
      replace xg := box_below xg b65
      have S65 := b65.size
      clear b65 B64
      have hl1 := logR_sm p q i j
      have hl2 := map_neg (logR p q i j)
      rw [← logR_swap] at hl2
      have HN1 := Lib.hid hl2.1
      have HN2 := Lib.hid hl2.2.1
      have HN3 := Lib.hid hl2.2.2
      clear hl2
      obtain ⟨x1, hx1⟩ : ∃ x, fN (logR p q i j) = x := ⟨_, rfl⟩
      obtain ⟨y1, hy1⟩ : ∃ x, fD (logR p q i j) = x := ⟨_, rfl⟩
      obtain ⟨z1', hz1⟩ : ∃ x, fB (logR p q i j) = x := ⟨_, rfl⟩
      rw [hx1] at hl1 HN1 ⊢
      rw [hy1] at HN2 ⊢
      rw [hz1] at HN3 ⊢
      have HX := Lib.hid hx1
      have HY := Lib.hid hy1
      have HZ := Lib.hid hz1
      clear hx1 hy1 hz1
      have hl3 := hl1.1
      have hl4 := hl1.2
      clear hl1
      have lg := lt_of_block xg
      have cg0 := box_cell xg 0 _ rfl
      have cg1 := box_cell xg 1 _ rfl
      go_wp2_with fail
      clear lg cg0 cg1
      have b66 := below_new w65 (.cells #[.int .i64 x1, .int .i64 y1] 28)
      have y66 := box_new w65 #[.int .i64 x1, .int .i64 y1] 28
      have q66 : (w65.alloc (.cells #[.int .i64 x1, .int .i64 y1] 28)).heap.size = w65.heap.size + 1 := by simp
      obtain ⟨gh, hgh⟩ : ∃ g, w65.heap.size = g := ⟨_, rfl⟩
      generalize w65.alloc (.cells #[.int .i64 x1, .int .i64 y1] 28) = w66 at *
      have B66 := B65.trans (b66.mono B65.size)
      replace xg := box_below xg b66
      have S66 := b66.size
      clear b66 B65
      rw [hgh] at y66 q66 ⊢
      have xh := y66
      try rw [← q66]
      clear y66 q66 hgh
      refine (specLogRatio_law _ _ _ _ _).mono ?_
      rintro e w67 ⟨rfl, b67⟩
      have B67 := B66.trans (b67.mono B66.size)
      replace xg := box_below xg b67
      replace xh := box_below xh b67
      have S67 := b67.size
      clear b67 B66
      rw [HX.out, HY.out, HZ.out]
      have lg := lt_of_block xg
      have cg0 := box_cell xg 0 _ rfl
      have cg1 := box_cell xg 1 _ rfl
      go_wp2_with fail
      clear lg cg0 cg1
      have b68 := below_new w67 (.cells #[.int .i64 x1, .int .i64 y1] 28)
      have y68 := box_new w67 #[.int .i64 x1, .int .i64 y1] 28
      have q68 : (w67.alloc (.cells #[.int .i64 x1, .int .i64 y1] 28)).heap.size = w67.heap.size + 1 := by simp
      obtain ⟨gk, hgk⟩ : ∃ g, w67.heap.size = g := ⟨_, rfl⟩
      generalize w67.alloc (.cells #[.int .i64 x1, .int .i64 y1] 28) = w68 at *
      have B68 := B67.trans (b68.mono B67.size)
      replace xg := box_below xg b68
      replace xh := box_below xh b68
      have S68 := b68.size
      clear b68 B67
      rw [hgk] at y68 q68 ⊢
      have xk := y68
      try rw [← q68]
      clear y68 q68 hgk
      refine (implLogRatio_law _ _ _ _ _).mono ?_
      rintro e w69 ⟨rfl, b69⟩
      have B69 := B68.trans (b69.mono B68.size)
      replace xg := box_below xg b69
      replace xh := box_below xh b69
      replace xk := box_below xk b69
      have S69 := b69.size
      clear b69 B68
      rw [HN1.out, HN2.out, HN3.out]
      clear HN1 HN2 HN3 HX HY HZ
      have lh := lt_of_block xh
      have ch0 := box_cell xh 0 _ rfl
      have ch1 := box_cell xh 1 _ rfl
      have lk := lt_of_block xk
      have ck0 := box_cell xk 0 _ rfl
      have ck1 := box_cell xk 1 _ rfl
      go_wp2_with fail
      clear lh ch0 ch1 lk ck0 ck1
      have b70 := below_new w69 (.cells #[.int .i64 (-x1), .int .i64 y1] 28)
      have y70 := box_new w69 #[.int .i64 (-x1), .int .i64 y1] 28
      have q70 : (w69.alloc (.cells #[.int .i64 (-x1), .int .i64 y1] 28)).heap.size = w69.heap.size + 1 := by simp
      obtain ⟨gm, hgm⟩ : ∃ g, w69.heap.size = g := ⟨_, rfl⟩
      generalize w69.alloc (.cells #[.int .i64 (-x1), .int .i64 y1] 28) = w70 at *
      have B70 := B69.trans (b70.mono B69.size)
      replace xg := box_below xg b70
      replace xh := box_below xh b70
      replace xk := box_below xk b70
      have S70 := b70.size
      clear b70 B69
      rw [hgm] at y70 q70 ⊢
      have xm := y70
      try rw [← q70]
      clear y70 q70 hgm
      clear xg xh xk xm
      refine (drawGaussSample_any _ _ _ _ (hb1.out.below B70) hn1).mono ?_
      rintro e w71 ⟨s1, s2, u1, u2, rfl, b71⟩
      have B71 := B70.trans (b71.mono B70.size)
      have S71 := b71.size
      clear b71 B70
      go_wp2_with fail
      have b72 := below_new w71 (.cells #[.int .i64 s1, .int .i64 s2] 38)
      have y72 := box_new w71 #[.int .i64 s1, .int .i64 s2] 38
      have q72 : (w71.alloc (.cells #[.int .i64 s1, .int .i64 s2] 38)).heap.size = w71.heap.size + 1 := by simp
      obtain ⟨gs, hgs⟩ : ∃ g, w71.heap.size = g := ⟨_, rfl⟩
      generalize w71.alloc (.cells #[.int .i64 s1, .int .i64 s2] 38) = w72 at *
      have B72 := B71.trans (b72.mono B71.size)
      have S72 := b72.size
      clear b72 B71
      rw [hgs] at y72 q72 ⊢
      have xs := y72
      try rw [← q72]
      clear y72 q72 hgs
      have b73 := below_new w72 (.cells #[.int .i64 u1, .int .i64 u2] 28)
      have y73 := box_new w72 #[.int .i64 u1, .int .i64 u2] 28
      have q73 : (w72.alloc (.cells #[.int .i64 u1, .int .i64 u2] 28)).heap.size = w72.heap.size + 1 := by simp
      obtain ⟨gu, hgu⟩ : ∃ g, w72.heap.size = g := ⟨_, rfl⟩
      generalize w72.alloc (.cells #[.int .i64 u1, .int .i64 u2] 28) = w73 at *
      have B73 := B72.trans (b73.mono B72.size)
      replace xs := box_below xs b73
      have S73 := b73.size
      clear b73 B72
      rw [hgu] at y73 q73 ⊢
      have xu := y73
      try rw [← q73]
      clear y73 q73 hgu
      refine (implGaussSample_law _ _ _ _ _).mono ?_
      rintro e w74 ⟨rfl, b74⟩
      have B74 := B73.trans (b74.mono B73.size)
      replace xs := box_below xs b74
      replace xu := box_below xu b74
      have S74 := b74.size
      clear b74 B73
      have ls := lt_of_block xs
      have cs0 := box_cell xs 0 _ rfl
      have cs1 := box_cell xs 1 _ rfl
      have lu := lt_of_block xu
      have cu0 := box_cell xu 0 _ rfl
      have cu1 := box_cell xu 1 _ rfl
      go_wp2_with fail
      clear ls cs0 cs1 lu cu0 cu1
      have b75 := below_new w74 (.cells #[.int .i64 (oS s1 (gauR s1 s2 u1 u2)), .int .i64 (oA (gauR s1 s2 u1 u2))] 38)
      have y75 := box_new w74 #[.int .i64 (oS s1 (gauR s1 s2 u1 u2)), .int .i64 (oA (gauR s1 s2 u1 u2))] 38
      have q75 : (w74.alloc (.cells #[.int .i64 (oS s1 (gauR s1 s2 u1 u2)), .int .i64 (oA (gauR s1 s2 u1 u2))] 38)).heap.size = w74.heap.size + 1 := by simp
      obtain ⟨gc, hgc⟩ : ∃ g, w74.heap.size = g := ⟨_, rfl⟩
      generalize w74.alloc (.cells #[.int .i64 (oS s1 (gauR s1 s2 u1 u2)), .int .i64 (oA (gauR s1 s2 u1 u2))] 38) = w75 at *
      have B75 := B74.trans (b75.mono B74.size)
      replace xs := box_below xs b75
      replace xu := box_below xu b75
      have S75 := b75.size
      clear b75 B74
      rw [hgc] at y75 q75 ⊢
      have xc := y75
      try rw [← q75]
      clear y75 q75 hgc
      refine (specGaussSample_law _ _ _ _ _).mono ?_
      rintro e w76 ⟨rfl, b76⟩
      have B76 := B75.trans (b76.mono B75.size)
      replace xs := box_below xs b76
      replace xu := box_below xu b76
      replace xc := box_below xc b76
      have S76 := b76.size
      clear b76 B75
      have lc := lt_of_block xc
      have cc0 := box_cell xc 0 _ rfl
      have cc1 := box_cell xc 1 _ rfl
      go_wp2_with fail
      clear lc cc0 cc1
      have b77 := below_new w76 (.cells #[.int .i64 (oS s1 (gauR s1 s2 u1 u2)), .int .i64 (oA (gauR s1 s2 u1 u2))] 38)
      have y77 := box_new w76 #[.int .i64 (oS s1 (gauR s1 s2 u1 u2)), .int .i64 (oA (gauR s1 s2 u1 u2))] 38
      have q77 : (w76.alloc (.cells #[.int .i64 (oS s1 (gauR s1 s2 u1 u2)), .int .i64 (oA (gauR s1 s2 u1 u2))] 38)).heap.size = w76.heap.size + 1 := by simp
      obtain ⟨ge, hge⟩ : ∃ g, w76.heap.size = g := ⟨_, rfl⟩
      generalize w76.alloc (.cells #[.int .i64 (oS s1 (gauR s1 s2 u1 u2)), .int .i64 (oA (gauR s1 s2 u1 u2))] 38) = w77 at *
      have B77 := B76.trans (b77.mono B76.size)
      replace xs := box_below xs b77
      replace xu := box_below xu b77
      replace xc := box_below xc b77
      have S77 := b77.size
      clear b77 B76
      rw [hge] at y77 q77 ⊢
      have xe := y77
      try rw [← q77]
      clear y77 q77 hge
      clear xs xu xc xe
      refine (drawLaplaceSample_any _ _ _ _ (hb1.out.below B77) hn1).mono ?_
      rintro e w78 ⟨t1, t2, sc, rfl, b78⟩
      have B78 := B77.trans (b78.mono B77.size)
      have S78 := b78.size
      clear b78 B77
      go_wp2_with fail
      have b79 := below_new w78 (.cells #[.int .i64 t1, .int .i64 t2] 38)
      have y79 := box_new w78 #[.int .i64 t1, .int .i64 t2] 38
      have q79 : (w78.alloc (.cells #[.int .i64 t1, .int .i64 t2] 38)).heap.size = w78.heap.size + 1 := by simp
      obtain ⟨gs, hgs⟩ : ∃ g, w78.heap.size = g := ⟨_, rfl⟩
      generalize w78.alloc (.cells #[.int .i64 t1, .int .i64 t2] 38) = w79 at *
      have B79 := B78.trans (b79.mono B78.size)
      have S79 := b79.size
      clear b79 B78
      rw [hgs] at y79 q79 ⊢
      have xs := y79
      try rw [← q79]
      clear y79 q79 hgs
      refine (implLaplaceSample_law _ _ _ _).mono ?_
      rintro e w80 ⟨rfl, b80⟩
      have B80 := B79.trans (b80.mono B79.size)
      replace xs := box_below xs b80
      have S80 := b80.size
      clear b80 B79
      have ls := lt_of_block xs
      have cs0 := box_cell xs 0 _ rfl
      have cs1 := box_cell xs 1 _ rfl
      go_wp2_with fail
      clear ls cs0 cs1
      have b81 := below_new w80 (.cells #[.int .i64 (oS t1 (lapR t1 t2 sc)), .int .i64 (oA (lapR t1 t2 sc))] 38)
      have y81 := box_new w80 #[.int .i64 (oS t1 (lapR t1 t2 sc)), .int .i64 (oA (lapR t1 t2 sc))] 38
      have q81 : (w80.alloc (.cells #[.int .i64 (oS t1 (lapR t1 t2 sc)), .int .i64 (oA (lapR t1 t2 sc))] 38)).heap.size = w80.heap.size + 1 := by simp
      obtain ⟨gc, hgc⟩ : ∃ g, w80.heap.size = g := ⟨_, rfl⟩
      generalize w80.alloc (.cells #[.int .i64 (oS t1 (lapR t1 t2 sc)), .int .i64 (oA (lapR t1 t2 sc))] 38) = w81 at *
      have B81 := B80.trans (b81.mono B80.size)
      replace xs := box_below xs b81
      have S81 := b81.size
      clear b81 B80
      rw [hgc] at y81 q81 ⊢
      have xc := y81
      try rw [← q81]
      clear y81 q81 hgc
      refine (specLaplaceSample_law _ _ _ _).mono ?_
      rintro e w82 ⟨rfl, b82⟩
      have B82 := B81.trans (b82.mono B81.size)
      replace xs := box_below xs b82
      replace xc := box_below xc b82
      have S82 := b82.size
      clear b82 B81
      have lc := lt_of_block xc
      have cc0 := box_cell xc 0 _ rfl
      have cc1 := box_cell xc 1 _ rfl
      go_wp2_with fail
      clear lc cc0 cc1
      have b83 := below_new w82 (.cells #[.int .i64 (oS t1 (lapR t1 t2 sc)), .int .i64 (oA (lapR t1 t2 sc))] 38)
      have y83 := box_new w82 #[.int .i64 (oS t1 (lapR t1 t2 sc)), .int .i64 (oA (lapR t1 t2 sc))] 38
      have q83 : (w82.alloc (.cells #[.int .i64 (oS t1 (lapR t1 t2 sc)), .int .i64 (oA (lapR t1 t2 sc))] 38)).heap.size = w82.heap.size + 1 := by simp
      obtain ⟨ge, hge⟩ : ∃ g, w82.heap.size = g := ⟨_, rfl⟩
      generalize w82.alloc (.cells #[.int .i64 (oS t1 (lapR t1 t2 sc)), .int .i64 (oA (lapR t1 t2 sc))] 38) = w83 at *
      have B83 := B82.trans (b83.mono B82.size)
      replace xs := box_below xs b83
      replace xc := box_below xc b83
      have S83 := b83.size
      clear b83 B82
      rw [hge] at y83 q83 ⊢
      have xe := y83
      try rw [← q83]
      clear y83 q83 hge
      clear xs xc xe
      refine (drawAcceptExponent_any _ _ _ _ (hb1.out.below B83) hn1).mono ?_
      rintro e w84 ⟨v1, v2, ky, rfl, b84⟩
      have B84 := B83.trans (b84.mono B83.size)
      have S84 := b84.size
      clear b84 B83
      go_wp2_with fail
      have b85 := below_new w84 (.cells #[.int .i64 v1, .int .i64 v2] 28)
      have y85 := box_new w84 #[.int .i64 v1, .int .i64 v2] 28
      have q85 : (w84.alloc (.cells #[.int .i64 v1, .int .i64 v2] 28)).heap.size = w84.heap.size + 1 := by simp
      obtain ⟨gf, hgf⟩ : ∃ g, w84.heap.size = g := ⟨_, rfl⟩
      generalize w84.alloc (.cells #[.int .i64 v1, .int .i64 v2] 28) = w85 at *
      have B85 := B84.trans (b85.mono B84.size)
      have S85 := b85.size
      clear b85 B84
      rw [hgf] at y85 q85 ⊢
      have xf := y85
      try rw [← q85]
      clear y85 q85 hgf
      refine (implAcceptExponent_law _ _ _ _).mono ?_
      rintro e w86 ⟨rfl, b86⟩
      have B86 := B85.trans (b86.mono B85.size)
      replace xf := box_below xf b86
      have S86 := b86.size
      clear b86 B85
      have hnn := accR_nn v1 v2 ky
      have lf := lt_of_block xf
      have cf0 := box_cell xf 0 _ rfl
      have cf1 := box_cell xf 1 _ rfl
      go_wp2_with fail
      clear lf cf0 cf1
      have b87 := below_new w86 (.cells #[.int .i64 (fN (accR v1 v2 ky)), .int .i64 (fD (accR v1 v2 ky))] 28)
      have y87 := box_new w86 #[.int .i64 (fN (accR v1 v2 ky)), .int .i64 (fD (accR v1 v2 ky))] 28
      have q87 : (w86.alloc (.cells #[.int .i64 (fN (accR v1 v2 ky)), .int .i64 (fD (accR v1 v2 ky))] 28)).heap.size = w86.heap.size + 1 := by simp
      obtain ⟨gc, hgc⟩ : ∃ g, w86.heap.size = g := ⟨_, rfl⟩
      generalize w86.alloc (.cells #[.int .i64 (fN (accR v1 v2 ky)), .int .i64 (fD (accR v1 v2 ky))] 28) = w87 at *
      have B87 := B86.trans (b87.mono B86.size)
      replace xf := box_below xf b87
      have S87 := b87.size
      clear b87 B86
      rw [hgc] at y87 q87 ⊢
      have xc := y87
      try rw [← q87]
      clear y87 q87 hgc
      refine (specAcceptExponent_law _ _ _ _).mono ?_
      rintro e w88 ⟨rfl, b88⟩
      have B88 := B87.trans (b88.mono B87.size)
      replace xf := box_below xf b88
      replace xc := box_below xc b88
      have S88 := b88.size
      clear b88 B87
      have lc := lt_of_block xc
      have cc0 := box_cell xc 0 _ rfl
      have cc1 := box_cell xc 1 _ rfl
      go_wp2
      go_ret
      exact ⟨rfl, B88.trans ((below_new _ _).mono B88.size)⟩
end Go.Proofs.Ytfkdmddfadkjoaa
