/- The walk of the law FnCoins, printed by gdl.py. -/
import Derived.Test.YtgfihfmlofgopaaZs
import Derived.Test.YtgfihfmlofgopaaDrawC2
import Derived.Test.YtgfihfmlofgopaaDrawP2
import Derived.Test.YtgfihfmlofgopaaCnD
import Derived.Test.YtgfihfmlofgopaaCnF
import Derived.Test.YtgfihfmlofgopaaCnG
import Derived.Test.YtgfihfmlofgopaaExpCoin
import Derived.Test.YtgfihfmlofgopaaCoinOf
import Derived.Deep.CutRange
import Derived.Deep.DeepCutAuto
namespace Go.Proofs.Ytgfihfmlofgopaa
open Go.RowKit

theorem cc_some {a b n : Int} {L : List (Int × Int)} (h : ccV a b n = some L) : ∃ N : Nat, N ≤ 8 ∧ 1 ≤ b ∧ lsO a b N (N + 1) = some L ∧ L.length = N + 1 := by
  unfold ccV at h
  split at h
  · rename_i hc
    have hn := inR_of hc.2
    exact ⟨n.toNat, by omega, (fracB_of (chanceB_of hc.1).1).1, h, lsO_len h⟩
  · cases h
theorem cc_len {a b n : Int} {X : Option (List (Int × Int))} (h : ccV a b n = X) : (X.getD []).length ≤ 1000 := by
  cases X with
  | none => simp
  | some L =>
    obtain ⟨N, h1, _, _, h4⟩ := cc_some h
    show L.length ≤ 1000
    omega

set_option maxRecDepth 100000 in
set_option maxHeartbeats 4000000 in
theorem walk_FnCoins (a0 : Option Addr) (n0 c0 : Nat) (z0 : List Int) (a1 : Option Addr) (n1 c1 : Nat) (z1 : List Int) (w : World) (r0 : Bytes w a0 n0 z0) (m0 : n0 ≤ maxLen) (f0 : ∀ x ∈ z0, (Lit.int .u8 x).wf = true) (r1 : Bytes w a1 n1 z1) (_m1 : n1 ≤ maxLen) (f1 : ∀ x ∈ z1, (Lit.int .u8 x).wf = true) :
    Calls Try.prog 3 #[.slice a0 n0 c0, .slice a1 n1 c1] w fun e w' => e = .returned (.bool true) ∧ Below w.heap.size w w' := by
  have hb0 := Lib.hid (byt_of r0 f0)
  have hb1 := Lib.hid (byt_of r1 f1)
  have B0 := Below.refl w.heap.size w
  clear r0 f0 r1 f1
  go_enter Try.func3, Try.ntmps3
  go_wp2_with fail
  refine (big_any _ _ _ _ _ _ _ m0).mono ?_
  rintro e w' ⟨rfl, rfl⟩
  cases hbig : bigB n0 n1
  case true =>
    clear hbig
    go_wp2
    go_ret
    exact ⟨rfl, B0⟩
  have hbg := bigB_of hbig
  have hn0 := hbg.1
  have hn1 := hbg.2
  clear hbig hbg m0
  go_wp2_with fail
  refine (drawCoinOf_any _ _ _ _ (hb0.out.below B0) hn0).mono ?_
  rintro e w1 ⟨s1, s2, p1, p2, rfl, b1⟩
  have B1 := B0.trans (b1.mono B0.size)
  have S1 := b1.size
  clear b1 B0
  go_wp2_with fail
  have b2 := below_new w1 (.cells #[.int .i64 s1, .int .i64 s2] 25)
  have y2 := box_new w1 #[.int .i64 s1, .int .i64 s2] 25
  have q2 : (w1.alloc (.cells #[.int .i64 s1, .int .i64 s2] 25)).heap.size = w1.heap.size + 1 := by simp
  obtain ⟨gs, hgs⟩ : ∃ g, w1.heap.size = g := ⟨_, rfl⟩
  generalize w1.alloc (.cells #[.int .i64 s1, .int .i64 s2] 25) = w2 at *
  have B2 := B1.trans (b2.mono B1.size)
  have S2 := b2.size
  clear b2 B1
  rw [hgs] at y2 q2 ⊢
  have xs := y2
  try rw [← q2]
  clear y2 q2 hgs
  have b3 := below_new w2 (.cells #[.int .i64 p1, .int .i64 p2] 27)
  have y3 := box_new w2 #[.int .i64 p1, .int .i64 p2] 27
  have q3 : (w2.alloc (.cells #[.int .i64 p1, .int .i64 p2] 27)).heap.size = w2.heap.size + 1 := by simp
  obtain ⟨gp, hgp⟩ : ∃ g, w2.heap.size = g := ⟨_, rfl⟩
  generalize w2.alloc (.cells #[.int .i64 p1, .int .i64 p2] 27) = w3 at *
  have B3 := B2.trans (b3.mono B2.size)
  replace xs := box_below xs b3
  have S3 := b3.size
  clear b3 B2
  rw [hgp] at y3 q3 ⊢
  have xp := y3
  try rw [← q3]
  clear y3 q3 hgp
  refine (implCoinOf_law _ _ _ _ _).mono ?_
  rintro e w4 ⟨rfl, b4⟩
  have B4 := B3.trans (b4.mono B3.size)
  replace xs := box_below xs b4
  replace xp := box_below xp b4
  have S4 := b4.size
  clear b4 B3
  obtain ⟨vb, hvb⟩ : ∃ x, oVb (coinR s1 s2 p1 p2) = x := ⟨_, rfl⟩
  obtain ⟨vs, hvs⟩ : ∃ x, oS s1 (coinR s1 s2 p1 p2) = x := ⟨_, rfl⟩
  obtain ⟨va, hva⟩ : ∃ x, oA (coinR s1 s2 p1 p2) = x := ⟨_, rfl⟩
  obtain ⟨vo, hvo⟩ : ∃ x, oB (coinR s1 s2 p1 p2) = x := ⟨_, rfl⟩
  rw [hvb, hvs, hva, hvo]
  have HVB := Lib.hid hvb
  have HVS := Lib.hid hvs
  have HVA := Lib.hid hva
  have HVO := Lib.hid hvo
  clear hvb hvs hva hvo
  have ls := lt_of_block xs
  have cs0 := box_cell xs 0 _ rfl
  have cs1 := box_cell xs 1 _ rfl
  have lp := lt_of_block xp
  have cp0 := box_cell xp 0 _ rfl
  have cp1 := box_cell xp 1 _ rfl
  go_wp2_with fail
  clear ls cs0 cs1 lp cp0 cp1
  have b5 := below_new w4 (.cells #[.int .i64 vs, .int .i64 va] 25)
  have y5 := box_new w4 #[.int .i64 vs, .int .i64 va] 25
  have q5 : (w4.alloc (.cells #[.int .i64 vs, .int .i64 va] 25)).heap.size = w4.heap.size + 1 := by simp
  obtain ⟨gc, hgc⟩ : ∃ g, w4.heap.size = g := ⟨_, rfl⟩
  generalize w4.alloc (.cells #[.int .i64 vs, .int .i64 va] 25) = w5 at *
  have B5 := B4.trans (b5.mono B4.size)
  replace xs := box_below xs b5
  replace xp := box_below xp b5
  have S5 := b5.size
  clear b5 B4
  rw [hgc] at y5 q5 ⊢
  have xc := y5
  try rw [← q5]
  clear y5 q5 hgc
  refine (specCoinOf_law _ _ _ _ _).mono ?_
  rintro e w6 ⟨rfl, b6⟩
  have B6 := B5.trans (b6.mono B5.size)
  replace xs := box_below xs b6
  replace xp := box_below xp b6
  replace xc := box_below xc b6
  have S6 := b6.size
  clear b6 B5
  rw [HVB.out, HVS.out, HVA.out, HVO.out]
  clear HVB HVS HVA HVO
  have k1 : (vo != vo) = false := by simp
  have k2 : (vb != vb) = false := by simp
  have lc := lt_of_block xc
  have cc0 := box_cell xc 0 _ rfl
  have cc1 := box_cell xc 1 _ rfl
  go_wp2_with fail
  clear lc cc0 cc1
  have b7 := below_new w6 (.cells #[.int .i64 vs, .int .i64 va] 25)
  have y7 := box_new w6 #[.int .i64 vs, .int .i64 va] 25
  have q7 : (w6.alloc (.cells #[.int .i64 vs, .int .i64 va] 25)).heap.size = w6.heap.size + 1 := by simp
  obtain ⟨ge, hge⟩ : ∃ g, w6.heap.size = g := ⟨_, rfl⟩
  generalize w6.alloc (.cells #[.int .i64 vs, .int .i64 va] 25) = w7 at *
  have B7 := B6.trans (b7.mono B6.size)
  replace xs := box_below xs b7
  replace xp := box_below xp b7
  replace xc := box_below xc b7
  have S7 := b7.size
  clear b7 B6
  rw [hge] at y7 q7 ⊢
  have xe := y7
  try rw [← q7]
  clear y7 q7 hge
  clear k1 k2
  clear xs xp xc xe
  refine (drawExpCoin_any _ _ _ _ (hb0.out.below B7) hn0).mono ?_
  rintro e w8 ⟨s1, s2, p1, p2, rfl, b8⟩
  have B8 := B7.trans (b8.mono B7.size)
  have S8 := b8.size
  clear b8 B7
  go_wp2_with fail
  have b9 := below_new w8 (.cells #[.int .i64 s1, .int .i64 s2] 25)
  have y9 := box_new w8 #[.int .i64 s1, .int .i64 s2] 25
  have q9 : (w8.alloc (.cells #[.int .i64 s1, .int .i64 s2] 25)).heap.size = w8.heap.size + 1 := by simp
  obtain ⟨gs, hgs⟩ : ∃ g, w8.heap.size = g := ⟨_, rfl⟩
  generalize w8.alloc (.cells #[.int .i64 s1, .int .i64 s2] 25) = w9 at *
  have B9 := B8.trans (b9.mono B8.size)
  have S9 := b9.size
  clear b9 B8
  rw [hgs] at y9 q9 ⊢
  have xs := y9
  try rw [← q9]
  clear y9 q9 hgs
  have b10 := below_new w9 (.cells #[.int .i64 p1, .int .i64 p2] 27)
  have y10 := box_new w9 #[.int .i64 p1, .int .i64 p2] 27
  have q10 : (w9.alloc (.cells #[.int .i64 p1, .int .i64 p2] 27)).heap.size = w9.heap.size + 1 := by simp
  obtain ⟨gp, hgp⟩ : ∃ g, w9.heap.size = g := ⟨_, rfl⟩
  generalize w9.alloc (.cells #[.int .i64 p1, .int .i64 p2] 27) = w10 at *
  have B10 := B9.trans (b10.mono B9.size)
  replace xs := box_below xs b10
  have S10 := b10.size
  clear b10 B9
  rw [hgp] at y10 q10 ⊢
  have xp := y10
  try rw [← q10]
  clear y10 q10 hgp
  refine (implExpCoin_law _ _ _ _ _).mono ?_
  rintro e w11 ⟨rfl, b11⟩
  have B11 := B10.trans (b11.mono B10.size)
  replace xs := box_below xs b11
  replace xp := box_below xp b11
  have S11 := b11.size
  clear b11 B10
  obtain ⟨vb, hvb⟩ : ∃ x, oVb (expR s1 s2 p1 p2) = x := ⟨_, rfl⟩
  obtain ⟨vs, hvs⟩ : ∃ x, oS s1 (expR s1 s2 p1 p2) = x := ⟨_, rfl⟩
  obtain ⟨va, hva⟩ : ∃ x, oA (expR s1 s2 p1 p2) = x := ⟨_, rfl⟩
  obtain ⟨vo, hvo⟩ : ∃ x, oB (expR s1 s2 p1 p2) = x := ⟨_, rfl⟩
  rw [hvb, hvs, hva, hvo]
  have HVB := Lib.hid hvb
  have HVS := Lib.hid hvs
  have HVA := Lib.hid hva
  have HVO := Lib.hid hvo
  clear hvb hvs hva hvo
  have ls := lt_of_block xs
  have cs0 := box_cell xs 0 _ rfl
  have cs1 := box_cell xs 1 _ rfl
  have lp := lt_of_block xp
  have cp0 := box_cell xp 0 _ rfl
  have cp1 := box_cell xp 1 _ rfl
  go_wp2_with fail
  clear ls cs0 cs1 lp cp0 cp1
  have b12 := below_new w11 (.cells #[.int .i64 vs, .int .i64 va] 25)
  have y12 := box_new w11 #[.int .i64 vs, .int .i64 va] 25
  have q12 : (w11.alloc (.cells #[.int .i64 vs, .int .i64 va] 25)).heap.size = w11.heap.size + 1 := by simp
  obtain ⟨gc, hgc⟩ : ∃ g, w11.heap.size = g := ⟨_, rfl⟩
  generalize w11.alloc (.cells #[.int .i64 vs, .int .i64 va] 25) = w12 at *
  have B12 := B11.trans (b12.mono B11.size)
  replace xs := box_below xs b12
  replace xp := box_below xp b12
  have S12 := b12.size
  clear b12 B11
  rw [hgc] at y12 q12 ⊢
  have xc := y12
  try rw [← q12]
  clear y12 q12 hgc
  refine (specExpCoin_law _ _ _ _ _).mono ?_
  rintro e w13 ⟨rfl, b13⟩
  have B13 := B12.trans (b13.mono B12.size)
  replace xs := box_below xs b13
  replace xp := box_below xp b13
  replace xc := box_below xc b13
  have S13 := b13.size
  clear b13 B12
  rw [HVB.out, HVS.out, HVA.out, HVO.out]
  clear HVB HVS HVA HVO
  have k1 : (vo != vo) = false := by simp
  have k2 : (vb != vb) = false := by simp
  have lc := lt_of_block xc
  have cc0 := box_cell xc 0 _ rfl
  have cc1 := box_cell xc 1 _ rfl
  go_wp2_with fail
  clear lc cc0 cc1
  have b14 := below_new w13 (.cells #[.int .i64 vs, .int .i64 va] 25)
  have y14 := box_new w13 #[.int .i64 vs, .int .i64 va] 25
  have q14 : (w13.alloc (.cells #[.int .i64 vs, .int .i64 va] 25)).heap.size = w13.heap.size + 1 := by simp
  obtain ⟨ge, hge⟩ : ∃ g, w13.heap.size = g := ⟨_, rfl⟩
  generalize w13.alloc (.cells #[.int .i64 vs, .int .i64 va] 25) = w14 at *
  have B14 := B13.trans (b14.mono B13.size)
  replace xs := box_below xs b14
  replace xp := box_below xp b14
  replace xc := box_below xc b14
  have S14 := b14.size
  clear b14 B13
  rw [hge] at y14 q14 ⊢
  have xe := y14
  try rw [← q14]
  clear y14 q14 hge
  clear k1 k2
  clear xs xp xc xe
  refine (drawPickOf_any _ _ _ _ (hb1.out.below B14) hn1).mono ?_
  rintro e w15 ⟨u1, u2, A2, m2, d2, ws, rfl, hm2, oI, b15⟩
  have B15 := B14.trans (b15.mono B14.size)
  have S15 := b15.size
  clear b15 B14
  go_wp2_with fail
  have b16 := below_new w15 (.cells #[.int .i64 u1, .int .i64 u2] 25)
  have y16 := box_new w15 #[.int .i64 u1, .int .i64 u2] 25
  have q16 : (w15.alloc (.cells #[.int .i64 u1, .int .i64 u2] 25)).heap.size = w15.heap.size + 1 := by simp
  obtain ⟨gu, hgu⟩ : ∃ g, w15.heap.size = g := ⟨_, rfl⟩
  generalize w15.alloc (.cells #[.int .i64 u1, .int .i64 u2] 25) = w16 at *
  have B16 := B15.trans (b16.mono B15.size)
  replace oI := oI.below b16
  have S16 := b16.size
  clear b16 B15
  rw [hgu] at y16 q16 ⊢
  have xu := y16
  try rw [← q16]
  clear y16 q16 hgu
  have HPW := Lib.hid (fun h => pick_weight (s := u1) (a := u2) (ws := ws) h)
  refine (implPickOf_law u1 u2 A2 m2 d2 ws _ oI.ints (by omega)).mono ?_
  rintro e w17 ⟨rfl, b17⟩
  have B17 := B16.trans (b17.mono B16.size)
  replace xu := box_below xu b17
  replace oI := oI.below b17
  have S17 := b17.size
  clear b17 B16
  obtain ⟨vb, hvb⟩ : ∃ x, oV (pickR u1 u2 ws) = x := ⟨_, rfl⟩
  obtain ⟨vs, hvs⟩ : ∃ x, oS u1 (pickR u1 u2 ws) = x := ⟨_, rfl⟩
  obtain ⟨va, hva⟩ : ∃ x, oA (pickR u1 u2 ws) = x := ⟨_, rfl⟩
  obtain ⟨vo, hvo⟩ : ∃ x, oB (pickR u1 u2 ws) = x := ⟨_, rfl⟩
  rw [hvb, hvs, hva, hvo]
  rw [hvb, hvo] at HPW
  have HVB := Lib.hid hvb
  have HVS := Lib.hid hvs
  have HVA := Lib.hid hva
  have HVO := Lib.hid hvo
  clear hvb hvs hva hvo
  have lu := lt_of_block xu
  have cu0 := box_cell xu 0 _ rfl
  have cu1 := box_cell xu 1 _ rfl
  go_wp2_with fail
  clear lu cu0 cu1
  have b18 := below_new w17 (.cells #[.int .i64 vs, .int .i64 va] 25)
  have y18 := box_new w17 #[.int .i64 vs, .int .i64 va] 25
  have q18 : (w17.alloc (.cells #[.int .i64 vs, .int .i64 va] 25)).heap.size = w17.heap.size + 1 := by simp
  obtain ⟨gc, hgc⟩ : ∃ g, w17.heap.size = g := ⟨_, rfl⟩
  generalize w17.alloc (.cells #[.int .i64 vs, .int .i64 va] 25) = w18 at *
  have B18 := B17.trans (b18.mono B17.size)
  replace xu := box_below xu b18
  replace oI := oI.below b18
  have S18 := b18.size
  clear b18 B17
  rw [hgc] at y18 q18 ⊢
  have xc := y18
  try rw [← q18]
  clear y18 q18 hgc
  refine (specPickOf_law u1 u2 A2 m2 d2 ws _ oI.ints (by omega)).mono ?_
  rintro e w19 ⟨rfl, b19⟩
  have B19 := B18.trans (b19.mono B18.size)
  replace xu := box_below xu b19
  replace xc := box_below xc b19
  replace oI := oI.below b19
  have S19 := b19.size
  clear b19 B18
  rw [HVB.out, HVS.out, HVA.out, HVO.out]
  clear HVB HVS HVA HVO
  have k1 : (vo != vo) = false := by simp
  have k2 : (vb != vb) = false := by simp
  go_upto_region 16 with fail
  have bE := below_new w19 (.cells #[.int .i64 vs, .int .i64 va] 25)
  have BE := B19.trans (bE.mono B19.size)
  have oE := oI.below bE
  have xE := box_new w19 #[.int .i64 vs, .int .i64 va] 25
  have xC := box_below xc bE
  clear xc xu bE oI B19
  generalize w19.alloc (.cells #[.int .i64 vs, .int .i64 va] 25) = wE at *
  go_cut [155] (fun v wx => v = .bool false ∧ Below w.heap.size w wx)
  case first =>
    have cC0 := box_cell xC 0 _ rfl
    have cC1 := box_cell xC 1 _ rfl
    have cE0 := box_cell xE 0 _ rfl
    have cE1 := box_cell xE 1 _ rfl
    have lC := lt_of_block xC
    have lE := lt_of_block xE
    have hE := oE.ints
    clear xC xE oE
    cases vo
    · clear hE HPW
      go_wp2_with fail
      go_meet
      exact ⟨rfl, BE⟩
    · obtain ⟨i, rfl, hi, hne⟩ := HPW.out rfl
      have hl := hE.1
      obtain ⟨ad, rfl, hc⟩ := hE.at_ (show i < m2 by omega)
      have hi2 : i < m2 := by omega
      generalize ws[i]?.getD 0 = x at *
      have hx : (x == 0) = false := by simpa using hne
      clear hE HPW hl hi hne
      go_wp2_with fail
      go_meet
      exact ⟨rfl, BE⟩
  case rest =>
    obtain ⟨rfl, bq⟩ := hcut
    clear BE xC xE oE HPW k1 k2
    generalize wc = wq at *
    go_wp2_with fail
    refine (drawCoinChances_any _ _ _ _ (hb1.out.below bq) hn1).mono ?_
    rintro e w20 ⟨q1, q2, nn, rfl, b20⟩
    have B20 := bq.trans (b20.mono bq.size)
    have S20 := b20.size
    clear b20 bq
    go_wp2_with fail
    have b21 := below_new w20 (.cells #[.int .i64 q1, .int .i64 q2] 27)
    have y21 := box_new w20 #[.int .i64 q1, .int .i64 q2] 27
    have q21 : (w20.alloc (.cells #[.int .i64 q1, .int .i64 q2] 27)).heap.size = w20.heap.size + 1 := by simp
    obtain ⟨gx, hgx⟩ : ∃ g, w20.heap.size = g := ⟨_, rfl⟩
    generalize w20.alloc (.cells #[.int .i64 q1, .int .i64 q2] 27) = w21 at *
    have B21 := B20.trans (b21.mono B20.size)
    have S21 := b21.size
    clear b21 B20
    rw [hgx] at y21 q21 ⊢
    have xx := y21
    try rw [← q21]
    clear y21 q21 hgx
    obtain ⟨CV, hCV⟩ : ∃ x, ccV q1 q2 nn = x := ⟨_, rfl⟩
    have hlen := cc_len hCV
    refine (implCoinChances_any q1 q2 nn _).mono ?_
    rintro e w22 ⟨Ai, ci, rfl, oX, b22⟩
    have B22 := B21.trans (b22.mono B21.size)
    replace xx := box_below xx b22
    have S22 := b22.size
    clear b22 B21
    rw [hCV] at oX ⊢
    have HCV := Lib.hid hCV
    clear hCV
    have lx := lt_of_block xx
    have cx0 := box_cell xx 0 _ rfl
    have cx1 := box_cell xx 1 _ rfl
    go_wp2_with fail
    clear lx cx0 cx1
    refine (specCoinChances_any q1 q2 nn _).mono ?_
    rintro e w23 ⟨As, cs, rfl, oY, b23⟩
    have B23 := B22.trans (b23.mono B22.size)
    replace xx := box_below xx b23
    replace oX := oX.below b23
    have S23 := b23.size
    clear b23 B22
    rw [HCV.out] at oY ⊢
    clear xx
    have k1 : (CV.isSome != CV.isSome) = false := by simp
    go_wp2_with fail
    refine (pSameFracs_any Ai As _ ci cs (CV.getD []) _ oX oY hlen).mono ?_
    rintro e w24 ⟨rfl, b24⟩
    have B24 := B23.trans (b24.mono B23.size)
    replace oX := oX.below b24
    replace oY := oY.below b24
    have S24 := b24.size
    clear b24 B23
    clear oY k1
    go_upto_if 182 with fail
    go_cut [] (fun wx => Below w.heap.size w wx)
    case first =>
      cases CV with
      | none =>
        go_wp2_with fail
        go_meet
        exact B24
      | some L =>
        obtain ⟨N, hN8, hb1', hL, hLl⟩ := cc_some HCV.out
        have HL := Lib.hid hL
        have HLl := Lib.hid hLl
        have hln : L.length ≤ 100 := by omega
        clear hLl hlen
        replace oX : FracsR w24 Ai L.length L := oX
        go_wp2_with fail
        refine (sumFracs_any Ai L.length ci L _ oX hln (fun j hj => cc_frac hL j (by have := HLl.out; omega))).mono ?_
        rintro e w25 ⟨rfl, b25⟩
        have B25 := B24.trans (b25.mono B24.size)
        replace oX := oX.below b25
        have S25 := b25.size
        clear b25 B24
        clear hL
        cases hS : smO L L.length with
        | none =>
          simp only [fN, fD, fB]
          go_wp2_with fail
          go_meet
          exact B25.trans ((below_new _ _).mono B25.size)
        | some r =>
          obtain ⟨p, q⟩ := r
          rw [HLl.out] at hS
          obtain ⟨rfl, rfl⟩ := sum_one hb1' hN8 HL.out hS
          clear hS
          simp only [fN, fD, fB]
          go_wp2_with fail
          go_meet
          exact B25.trans ((below_new _ _).mono B25.size)
    case rest =>
      have br : Below w.heap.size w wc := hcut
      clear hcut hlen HCV oX B24
      generalize wc = wr at *
      go_wp2_with fail
      refine (drawExpBounds_any _ _ _ _ (hb1.out.below br) hn1).mono ?_
      rintro e w26 ⟨y1, y2, kk, rfl, b26⟩
      have B26 := br.trans (b26.mono br.size)
      have S26 := b26.size
      clear b26 br
      go_wp2_with fail
      have b27 := below_new w26 (.cells #[.int .i64 y1, .int .i64 y2] 27)
      have y27 := box_new w26 #[.int .i64 y1, .int .i64 y2] 27
      have q27 : (w26.alloc (.cells #[.int .i64 y1, .int .i64 y2] 27)).heap.size = w26.heap.size + 1 := by simp
      obtain ⟨gy, hgy⟩ : ∃ g, w26.heap.size = g := ⟨_, rfl⟩
      generalize w26.alloc (.cells #[.int .i64 y1, .int .i64 y2] 27) = w27 at *
      have B27 := B26.trans (b27.mono B26.size)
      have S27 := b27.size
      clear b27 B26
      rw [hgy] at y27 q27 ⊢
      have xy := y27
      try rw [← q27]
      clear y27 q27 hgy
      obtain ⟨EV, hEV⟩ : ∃ x, ebV y1 y2 kk = x := ⟨_, rfl⟩
      refine (implExpBounds_any y1 y2 kk _).mono ?_
      rintro e w28 ⟨rfl, b28⟩
      have B28 := B27.trans (b28.mono B27.size)
      replace xy := box_below xy b28
      have S28 := b28.size
      clear b28 B27
      rw [hEV]
      have HEV := Lib.hid hEV
      clear hEV
      cases EV with
      | none =>
        simp only [Option.getD_none, Option.isSome_none]
        have ly := lt_of_block xy
        have cy0 := box_cell xy 0 _ rfl
        have cy1 := box_cell xy 1 _ rfl
        go_wp2_with fail
        clear ly cy0 cy1
        have b29 := below_new w28 (.cells #[.int .i64 0, .int .i64 0] 27)
        have y29 := box_new w28 #[.int .i64 0, .int .i64 0] 27
        have q29 : (w28.alloc (.cells #[.int .i64 0, .int .i64 0] 27)).heap.size = w28.heap.size + 1 := by simp
        obtain ⟨ga, hga⟩ : ∃ g, w28.heap.size = g := ⟨_, rfl⟩
        generalize w28.alloc (.cells #[.int .i64 0, .int .i64 0] 27) = w29 at *
        have B29 := B28.trans (b29.mono B28.size)
        replace xy := box_below xy b29
        have S29 := b29.size
        clear b29 B28
        rw [hga] at y29 q29 ⊢
        have xa := y29
        try rw [← q29]
        clear y29 q29 hga
        have b30 := below_new w29 (.cells #[.int .i64 0, .int .i64 0] 27)
        have y30 := box_new w29 #[.int .i64 0, .int .i64 0] 27
        have q30 : (w29.alloc (.cells #[.int .i64 0, .int .i64 0] 27)).heap.size = w29.heap.size + 1 := by simp
        obtain ⟨gb, hgb⟩ : ∃ g, w29.heap.size = g := ⟨_, rfl⟩
        generalize w29.alloc (.cells #[.int .i64 0, .int .i64 0] 27) = w30 at *
        have B30 := B29.trans (b30.mono B29.size)
        replace xy := box_below xy b30
        replace xa := box_below xa b30
        have S30 := b30.size
        clear b30 B29
        rw [hgb] at y30 q30 ⊢
        have xb := y30
        try rw [← q30]
        clear y30 q30 hgb
        refine (specExpBounds_any y1 y2 kk _).mono ?_
        rintro e w31 ⟨rfl, b31⟩
        have B31 := B30.trans (b31.mono B30.size)
        replace xy := box_below xy b31
        replace xa := box_below xa b31
        replace xb := box_below xb b31
        have S31 := b31.size
        clear b31 B30
        rw [HEV.out]
        simp only [Option.getD_none, Option.isSome_none]
        clear HEV
        have la := lt_of_block xa
        have ca0 := box_cell xa 0 _ rfl
        have ca1 := box_cell xa 1 _ rfl
        have lb := lt_of_block xb
        have cb0 := box_cell xb 0 _ rfl
        have cb1 := box_cell xb 1 _ rfl
        go_wp2
        go_ret
        exact ⟨rfl, (B31.trans ((below_new _ _).mono B31.size)).trans ((below_new _ _).mono (B31.trans ((below_new _ _).mono B31.size)).size)⟩
      | some r =>
        obtain ⟨⟨lp, lq⟩, ⟨hp, hq⟩⟩ := r
        obtain ⟨hf1, hf2, hle⟩ := eb_order HEV.out
        have HF1 := Lib.hid hf1
        have HF2 := Lib.hid hf2
        have HLE := Lib.hid hle
        clear hf1 hf2 hle
        simp only [Option.getD_some, Option.isSome_some]
        have ly := lt_of_block xy
        have cy0 := box_cell xy 0 _ rfl
        have cy1 := box_cell xy 1 _ rfl
        go_wp2_with fail
        clear ly cy0 cy1
        have b32 := below_new w28 (.cells #[.int .i64 lp, .int .i64 lq] 27)
        have y32 := box_new w28 #[.int .i64 lp, .int .i64 lq] 27
        have q32 : (w28.alloc (.cells #[.int .i64 lp, .int .i64 lq] 27)).heap.size = w28.heap.size + 1 := by simp
        obtain ⟨ga, hga⟩ : ∃ g, w28.heap.size = g := ⟨_, rfl⟩
        generalize w28.alloc (.cells #[.int .i64 lp, .int .i64 lq] 27) = w32 at *
        have B32 := B28.trans (b32.mono B28.size)
        replace xy := box_below xy b32
        have S32 := b32.size
        clear b32 B28
        rw [hga] at y32 q32 ⊢
        have xa := y32
        try rw [← q32]
        clear y32 q32 hga
        have b33 := below_new w32 (.cells #[.int .i64 hp, .int .i64 hq] 27)
        have y33 := box_new w32 #[.int .i64 hp, .int .i64 hq] 27
        have q33 : (w32.alloc (.cells #[.int .i64 hp, .int .i64 hq] 27)).heap.size = w32.heap.size + 1 := by simp
        obtain ⟨gb, hgb⟩ : ∃ g, w32.heap.size = g := ⟨_, rfl⟩
        generalize w32.alloc (.cells #[.int .i64 hp, .int .i64 hq] 27) = w33 at *
        have B33 := B32.trans (b33.mono B32.size)
        replace xy := box_below xy b33
        replace xa := box_below xa b33
        have S33 := b33.size
        clear b33 B32
        rw [hgb] at y33 q33 ⊢
        have xb := y33
        try rw [← q33]
        clear y33 q33 hgb
        refine (specExpBounds_any y1 y2 kk _).mono ?_
        rintro e w34 ⟨rfl, b34⟩
        have B34 := B33.trans (b34.mono B33.size)
        replace xy := box_below xy b34
        replace xa := box_below xa b34
        replace xb := box_below xb b34
        have S34 := b34.size
        clear b34 B33
        rw [HEV.out]
        simp only [Option.getD_some, Option.isSome_some]
        clear HEV
        have la := lt_of_block xa
        have ca0 := box_cell xa 0 _ rfl
        have ca1 := box_cell xa 1 _ rfl
        have lb := lt_of_block xb
        have cb0 := box_cell xb 0 _ rfl
        have cb1 := box_cell xb 1 _ rfl
        go_wp2_with fail
        clear la ca0 ca1 lb cb0 cb1
        have b35 := below_new w34 (.cells #[.int .i64 lp, .int .i64 lq] 27)
        have y35 := box_new w34 #[.int .i64 lp, .int .i64 lq] 27
        have q35 : (w34.alloc (.cells #[.int .i64 lp, .int .i64 lq] 27)).heap.size = w34.heap.size + 1 := by simp
        obtain ⟨gc, hgc⟩ : ∃ g, w34.heap.size = g := ⟨_, rfl⟩
        generalize w34.alloc (.cells #[.int .i64 lp, .int .i64 lq] 27) = w35 at *
        have B35 := B34.trans (b35.mono B34.size)
        replace xy := box_below xy b35
        replace xa := box_below xa b35
        replace xb := box_below xb b35
        have S35 := b35.size
        clear b35 B34
        rw [hgc] at y35 q35 ⊢
        have xc := y35
        try rw [← q35]
        clear y35 q35 hgc
        have b36 := below_new w35 (.cells #[.int .i64 hp, .int .i64 hq] 27)
        have y36 := box_new w35 #[.int .i64 hp, .int .i64 hq] 27
        have q36 : (w35.alloc (.cells #[.int .i64 hp, .int .i64 hq] 27)).heap.size = w35.heap.size + 1 := by simp
        obtain ⟨gd, hgd⟩ : ∃ g, w35.heap.size = g := ⟨_, rfl⟩
        generalize w35.alloc (.cells #[.int .i64 hp, .int .i64 hq] 27) = w36 at *
        have B36 := B35.trans (b36.mono B35.size)
        replace xy := box_below xy b36
        replace xa := box_below xa b36
        replace xb := box_below xb b36
        replace xc := box_below xc b36
        have S36 := b36.size
        clear b36 B35
        rw [hgd] at y36 q36 ⊢
        have xd := y36
        try rw [← q36]
        clear y36 q36 hgd
        refine (compareFrac_any lp lq hp hq _ HF1.out HF2.out HLE.out).mono ?_
        rintro e w37 ⟨⟨r, rfl, hr⟩, b37⟩
        have B37 := B36.trans (b37.mono B36.size)
        replace xy := box_below xy b37
        replace xa := box_below xa b37
        replace xb := box_below xb b37
        replace xc := box_below xc b37
        replace xd := box_below xd b37
        have S37 := b37.size
        clear b37 B36
        go_wp2
        go_ret
        exact ⟨ret_bool (by first | (simp; done) | (simp; omega)), B37⟩
end Go.Proofs.Ytgfihfmlofgopaa
