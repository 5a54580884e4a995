/- MarginsOf of both sides; the greatest deviation; sums and sameness in the law's hands. -/
import Derived.Test.YtcjmapdeopffcaaSdD
import Derived.Test.YtcjmapdeopffcaaZs
namespace Go.Proofs.Ytcjmapdeopffcaa
open Go.RowKit Flo
set_option linter.unusedVariables false

theorem RnO.mono {w : World} {lo hi lo' hi' nx xc nr rc nc cc : Nat} {X R C : Option Addr} {L : Nat → List Int} {rs cs : List Int} (h : RnO w lo hi X R C nx xc nr rc nc cc L rs cs) (h1 : lo' ≤ lo) (h2 : hi ≤ hi') : RnO w lo' hi' X R C nx xc nr rc nc cc L rs cs := by
  obtain ⟨x0, x1, r0, r1, c0, c1, a, r, c, g1, g2, g3, g4, g5, g6, hh⟩ := h.ex
  exact ⟨x0, x1, r0, r1, c0, c1, a, r, c, by omega, by omega, by omega, by omega, by omega, by omega, hh⟩
/-- A matrix, if it is one. -/
def mxO (n : Nat) (L : Nat → List Int) : Option (Nat → Nat → Int) := if mxB n L = true then some (fnL L) else none

set_option maxRecDepth 100000 in
set_option maxHeartbeats 4000000 in
theorem implMargins_any (A : Option Addr) (n c : Nat) (L : Nat → List Int) (w : World) (hx : IntsS w A n L) (hn : n ≤ 1099511627776) (hL : ∀ j, j < n → (L j).length ≤ 1099511627776) :
    Calls Try.prog 21 #[.slice A n c] w (RetC w (oN n (mxO n L)) (oN (L 0).length (mxO n L)) (oL (L 0).length (mxO n L)) (oR n (L 0).length (mxO n L)) (oC n (L 0).length (mxO n L)) (oT n (L 0).length (mxO n L)) (oK (mxO n L))) := by
  obtain ⟨O, hO⟩ : ∃ O, mxO n L = O := ⟨_, rfl⟩
  rw [hO]
  have HO := Lib.hid hO
  have b0 := below_new w (.cells #[.slice none 0 0, .slice none 0 0, .slice none 0 0, .int .i64 0] 26)
  have x0 := box_new w #[.slice none 0 0, .slice none 0 0, .slice none 0 0, .int .i64 0] 26
  have HX1 := Lib.hid (IntsS.below hx b0)
  have B0 := Lib.hid b0
  have X0 := Lib.hid x0
  have HL := Lib.hid hL
  clear hx hL b0 x0 hO
  go_enter Try.func21, Try.ntmps21
  go_wp2_with fail
  generalize w.alloc (.cells #[.slice none 0 0, .slice none 0 0, .slice none 0 0, .int .i64 0] 26) = w1 at *
  refine (isMatrix_any A n c L _ HX1.out hn HL.out).mono ?_
  rintro e w' ⟨rfl, rfl⟩
  cases hm : mxB n L
  case false =>
    obtain rfl : O = none := by rw [← HO.out]; unfold mxO; rw [hm]; rfl
    clear hm HO
    have z0 := box_cell X0.out 0 (.slice none 0 0) rfl
    have z1 := box_cell X0.out 1 (.slice none 0 0) rfl
    have z2 := box_cell X0.out 2 (.slice none 0 0) rfl
    have z3 := box_cell X0.out 3 (.int .i64 0) rfl
    have y0 := box_free X0.out 0
    have y1 := box_free X0.out 1
    have y2 := box_free X0.out 2
    have y3 := box_free X0.out 3
    have hx4 := box4 (a := .slice none 0 0) (b := .slice none 0 0) (c := .slice none 0 0) (d := .int .i64 0) X0.out
    have v0 := box_cell hx4 0 (.slice none 0 0) rfl
    have v1 := box_cell hx4 1 (.slice none 0 0) rfl
    have v2 := box_cell hx4 2 (.slice none 0 0) rfl
    have v3 := box_cell hx4 3 (.int .i64 0) rfl
    have HBZ := Lib.hid ((chg4 (g := w.heap.size) (a := .slice none 0 0) (b := .slice none 0 0) (c := .slice none 0 0) (d := .int .i64 0)).below B0.out (Nat.le_refl _) B0.out.size)
    clear hx4
    go_wp2
    refine bodyPost_ret (v := .tuple #[.agg #[.slice none 0 0, .slice none 0 0, .slice none 0 0, .int .i64 0], .bool false]) (by simp [results, Try.results21, go_sem, v0, v1, v2, v3]) rfl (retC_none HBZ.out)
  case true =>
    obtain ⟨hn1, hn7, hm1, hm7, hsh, hxb⟩ := mxB_of hm
    obtain rfl : O = some (fnL L) := by rw [← HO.out]; unfold mxO; rw [hm]; rfl
    have HMX : Hid (MatR w1 A n (L 0).length (fnL L)) := Lib.hid (matR_of HX1.out hsh)
    have HXB : Hid (∀ i j, i < n → j < (L 0).length → 0 ≤ fnL L i j ∧ fnL L i j ≤ 1000000) := Lib.hid (fun i j hi hj => by have := hxb i j hi hj; unfold fnL; omega)
    clear hm HO hsh hxb
    generalize (L 0).length = m at *
    go_wp2_with fail
    refine (summed_any n m A c (fnL L) w1 HMX.out hn1 (by omega) hm1 (by omega) HXB.out).mono ?_
    rintro e w5 ⟨X, R, C, xc, rc, cc, rfl, hP, b5⟩
    have HP := hP.rnO
    have HB5 := Lib.hid (B0.out.trans (b5.mono B0.out.size))
    have HX4 := Lib.hid (box_below X0.out b5)
    obtain ⟨tt, htt⟩ : ∃ tt, tt = totS n m (fnL L) := ⟨_, rfl⟩
    rw [← htt]
    have HTT := Lib.hid htt
    have hx4 := box4 (a := .slice X n xc) (b := .slice R n rc) (c := .slice C m cc) (d := .int .i64 tt) HX4.out
    have hc4 := chg4 (w := w5) (g := w.heap.size) (a := .slice X n xc) (b := .slice R n rc) (c := .slice C m cc) (d := .int .i64 tt)
    have s1 : w.heap.size < w1.heap.size := lt_of_block X0.out
    have HPF := Lib.hid ((HP.chg hc4 (.inr (by omega))).mono (show w.heap.size ≤ w1.heap.size by omega) hc4.size)
    have HBF := Lib.hid (hc4.below HB5.out (Nat.le_refl _) HB5.out.size)
    have z0 := box_cell HX4.out 0 (.slice none 0 0) rfl
    have z1 := box_cell HX4.out 1 (.slice none 0 0) rfl
    have z2 := box_cell HX4.out 2 (.slice none 0 0) rfl
    have z3 := box_cell HX4.out 3 (.int .i64 0) rfl
    have y0 := box_free HX4.out 0
    have y1 := box_free HX4.out 1
    have y2 := box_free HX4.out 2
    have y3 := box_free HX4.out 3
    have v0 := box_cell hx4 0 (.slice X n xc) rfl
    have v1 := box_cell hx4 1 (.slice R n rc) rfl
    have v2 := box_cell hx4 2 (.slice C m cc) rfl
    have v3 := box_cell hx4 3 (.int .i64 tt) rfl
    clear hx4 hc4 hP HP b5 htt s1
    go_wp2
    exact bodyPost_ret (v := .tuple #[.agg #[.slice X n xc, .slice R n rc, .slice C m cc, .int .i64 tt], .bool true]) (by simp [results, Try.results21, go_sem, v0, v1, v2, v3]) rfl ⟨X, R, C, xc, rc, cc, by rw [HTT.out]; rfl, HPF.out, HBF.out⟩

set_option maxRecDepth 100000 in
set_option maxHeartbeats 4000000 in
theorem specMargins_any (A : Option Addr) (n c : Nat) (L : Nat → List Int) (w : World) (hx : IntsS w A n L) (hn : n ≤ 1099511627776) (hL : ∀ j, j < n → (L j).length ≤ 1099511627776) :
    Calls Try.prog 22 #[.slice A n c] w (RetC w (oN n (mxO n L)) (oN (L 0).length (mxO n L)) (oL (L 0).length (mxO n L)) (oR n (L 0).length (mxO n L)) (oC n (L 0).length (mxO n L)) (oT n (L 0).length (mxO n L)) (oK (mxO n L))) := by
  obtain ⟨O, hO⟩ : ∃ O, mxO n L = O := ⟨_, rfl⟩
  rw [hO]
  have HO := Lib.hid hO
  have b0 := below_new w (.cells #[.slice none 0 0, .slice none 0 0, .slice none 0 0, .int .i64 0] 26)
  have x0 := box_new w #[.slice none 0 0, .slice none 0 0, .slice none 0 0, .int .i64 0] 26
  have HX1 := Lib.hid (IntsS.below hx b0)
  have B0 := Lib.hid b0
  have X0 := Lib.hid x0
  have HL := Lib.hid hL
  clear hx hL b0 x0 hO
  go_enter Try.func22, Try.ntmps22
  go_wp2_with fail
  generalize w.alloc (.cells #[.slice none 0 0, .slice none 0 0, .slice none 0 0, .int .i64 0] 26) = w1 at *
  refine (oMatrix_any A n c L _ HX1.out hn HL.out).mono ?_
  rintro e w' ⟨rfl, rfl⟩
  cases hm : mxB n L
  case false =>
    obtain rfl : O = none := by rw [← HO.out]; unfold mxO; rw [hm]; rfl
    clear hm HO
    have z0 := box_cell X0.out 0 (.slice none 0 0) rfl
    have z1 := box_cell X0.out 1 (.slice none 0 0) rfl
    have z2 := box_cell X0.out 2 (.slice none 0 0) rfl
    have z3 := box_cell X0.out 3 (.int .i64 0) rfl
    have y0 := box_free X0.out 0
    have y1 := box_free X0.out 1
    have y2 := box_free X0.out 2
    have y3 := box_free X0.out 3
    have hx4 := box4 (a := .slice none 0 0) (b := .slice none 0 0) (c := .slice none 0 0) (d := .int .i64 0) X0.out
    have v0 := box_cell hx4 0 (.slice none 0 0) rfl
    have v1 := box_cell hx4 1 (.slice none 0 0) rfl
    have v2 := box_cell hx4 2 (.slice none 0 0) rfl
    have v3 := box_cell hx4 3 (.int .i64 0) rfl
    have HBZ := Lib.hid ((chg4 (g := w.heap.size) (a := .slice none 0 0) (b := .slice none 0 0) (c := .slice none 0 0) (d := .int .i64 0)).below B0.out (Nat.le_refl _) B0.out.size)
    clear hx4
    go_wp2
    refine bodyPost_ret (v := .tuple #[.agg #[.slice none 0 0, .slice none 0 0, .slice none 0 0, .int .i64 0], .bool false]) (by simp [results, Try.results22, go_sem, v0, v1, v2, v3]) rfl (retC_none HBZ.out)
  case true =>
    obtain ⟨hn1, hn7, hm1, hm7, hsh, hxb⟩ := mxB_of hm
    obtain rfl : O = some (fnL L) := by rw [← HO.out]; unfold mxO; rw [hm]; rfl
    have HMX : Hid (MatR w1 A n (L 0).length (fnL L)) := Lib.hid (matR_of HX1.out hsh)
    have HXB : Hid (∀ i j, i < n → j < (L 0).length → 0 ≤ fnL L i j ∧ fnL L i j ≤ 1000000) := Lib.hid (fun i j hi hj => by have := hxb i j hi hj; unfold fnL; omega)
    clear hm HO hsh hxb
    generalize (L 0).length = m at *
    go_wp2_with fail
    refine (oMargins_any n m A c (fnL L) w1 HMX.out hn1 (by omega) hm1 (by omega) HXB.out).mono ?_
    rintro e w5 ⟨p0, p1, p2, p3, X, R, C, xc, rc, cc, rfl, hP, hp0, b5⟩
    have HP := hP.rnO hp0
    have HB5 := Lib.hid (B0.out.trans (b5.mono B0.out.size))
    have HX4 := Lib.hid (box_below X0.out b5)
    obtain ⟨tt, htt⟩ : ∃ tt, tt = totS n m (fnL L) := ⟨_, rfl⟩
    rw [← htt]
    have HTT := Lib.hid htt
    have hx4 := box4 (a := .slice X n xc) (b := .slice R n rc) (c := .slice C m cc) (d := .int .i64 tt) HX4.out
    have hc4 := chg4 (w := w5) (g := w.heap.size) (a := .slice X n xc) (b := .slice R n rc) (c := .slice C m cc) (d := .int .i64 tt)
    have s1 : w.heap.size < w1.heap.size := lt_of_block X0.out
    have HPF := Lib.hid ((HP.chg hc4 (.inr (by omega))).mono (show w.heap.size ≤ w1.heap.size by omega) hc4.size)
    have HBF := Lib.hid (hc4.below HB5.out (Nat.le_refl _) HB5.out.size)
    have z0 := box_cell HX4.out 0 (.slice none 0 0) rfl
    have z1 := box_cell HX4.out 1 (.slice none 0 0) rfl
    have z2 := box_cell HX4.out 2 (.slice none 0 0) rfl
    have z3 := box_cell HX4.out 3 (.int .i64 0) rfl
    have y0 := box_free HX4.out 0
    have y1 := box_free HX4.out 1
    have y2 := box_free HX4.out 2
    have y3 := box_free HX4.out 3
    have v0 := box_cell hx4 0 (.slice X n xc) rfl
    have v1 := box_cell hx4 1 (.slice R n rc) rfl
    have v2 := box_cell hx4 2 (.slice C m cc) rfl
    have v3 := box_cell hx4 3 (.int .i64 tt) rfl
    clear hx4 hc4 hP hp0 HP b5 htt s1
    go_wp2
    exact bodyPost_ret (v := .tuple #[.agg #[.slice X n xc, .slice R n rc, .slice C m cc, .int .i64 tt], .bool true]) (by simp [results, Try.results22, go_sem, v0, v1, v2, v3]) rfl ⟨X, R, C, xc, rc, cc, by rw [HTT.out]; rfl, HPF.out, HBF.out⟩

set_option maxRecDepth 100000 in
set_option maxHeartbeats 1000000 in
theorem pSum_any (A : Option Addr) (n c : Nat) (g : Nat → Int) (w : World) (hx : VecR w A n g) (hn : n ≤ 1000) (hb : ∀ k, k < n → 0 ≤ g k ∧ g k ≤ 1000000000) :
    Calls Try.prog 23 #[.slice A n c] w fun e w' => e = .returned (.int .i64 (sm n g)) ∧ w' = w := by
  have HB := Lib.hid hb
  have HS : Hid (∀ k : Nat, k ≤ n → 0 ≤ sm k g ∧ sm k g ≤ 1000000000 * (k : Int)) := Lib.hid (fun k => by
    induction k with
    | zero => intro _; simp [sm]
    | succ k ih => intro hk; have h1 := ih (by omega); have h2 := HB.out k (by omega); simp only [sm]; omega)
  clear hb
  go_enter Try.func23, Try.ntmps23
  go_wp2
  go_loop [3, 8] (fun a iv => ∃ k : Nat, k ≤ n ∧ iv = .int .i64 k ∧ a = .int .i64 (sm k g)) (fun _ iv => n - (intOf iv).toNat)
  case atStart => exact ⟨0, Nat.zero_le _, rfl, rfl⟩
  case round =>
    obtain ⟨k, hk, rfl, rfl⟩ := hrel
    by_cases hlt : k < n
    case pos =>
      obtain ⟨ad, rfl, p1⟩ := vecR_at hx hlt
      obtain ⟨h1, h2⟩ := HS.out k hk
      obtain ⟨h3, h4⟩ := HB.out k hlt
      have HE : Hid (sm (k + 1) g = sm k g + g k) := Lib.hid rfl
      clear hx
      generalize sm k g = s at *
      generalize g k = v at *
      go_wp2
      go_roundw
      case rel => exact ⟨k + 1, by omega, by go_num, val_int (by rw [HE.out])⟩
      case measure => simp [intOf]; omega
    case neg =>
      obtain rfl : n = k := by omega
      go_wp2
      go_ret
      exact ⟨rfl, rfl⟩

set_option maxRecDepth 100000 in
set_option maxHeartbeats 1000000 in
theorem pSameRounding_any (X R C X' R' C' : Option Addr) (nx nr nc xc rc cc xc' rc' cc' : Nat) (L : Nat → List Int) (rs cs : List Int) (t : Int) (w : World) (hx : RnR w X R C nx nr nc L rs cs) (hy : RnR w X' R' C' nx nr nc L rs cs) (h1 : nx ≤ 1099511627776) (h2 : nr ≤ 1099511627776) (h3 : nc ≤ 1099511627776) (hL : ∀ j, j < nx → (L j).length ≤ 1099511627776) :
    Calls Try.prog 16 #[.agg #[.slice X nx xc, .slice R nr rc, .slice C nc cc, .int .i64 t], .agg #[.slice X' nx xc', .slice R' nr rc', .slice C' nc cc', .int .i64 t]] w fun e w' => e = .returned (.bool true) ∧ Below w.heap.size w w' := by
  obtain ⟨b0, x1, x2⟩ := box_two w #[.slice X nx xc, .slice R nr rc, .slice C nc cc, .int .i64 t] #[.slice X' nx xc', .slice R' nr rc', .slice C' nc cc', .int .i64 t] 26 26
  have HX := Lib.hid (hx.below b0)
  have HY := Lib.hid (hy.below b0)
  have HL := Lib.hid hL
  have B0 := Lib.hid b0
  clear hx hy hL
  go_enter Try.func16, Try.ntmps16
  have c0 := box_cell x1 0 _ rfl
  have d0 := box_cell x2 0 _ rfl
  have X1 := Lib.hid x1
  have X2 := Lib.hid x2
  clear b0 x1 x2
  go_wp2_with fail
  refine (sameLists_any _ _ nx _ _ L _ HX.out.x HY.out.x h1 HL.out).mono ?_
  rintro e w2 ⟨rfl, b2⟩
  have B2 := Lib.hid (B0.out.trans (b2.mono B0.out.size))
  have Y1 := Lib.hid (box_below X1.out b2)
  have Y2 := Lib.hid (box_below X2.out b2)
  have HX2 := Lib.hid (HX.out.below b2)
  have HY2 := Lib.hid (HY.out.below b2)
  have c1 := box_cell Y1.out 1 _ rfl
  have d1 := box_cell Y2.out 1 _ rfl
  clear c0 d0 b2
  go_wp2_with fail
  refine (sameInts_any _ _ nr _ _ rs _ HX2.out.r HY2.out.r h2).mono ?_
  rintro e w3 ⟨rfl, b3⟩
  have B3 := Lib.hid (B2.out.trans (b3.mono B2.out.size))
  have Z1 := Lib.hid (box_below Y1.out b3)
  have Z2 := Lib.hid (box_below Y2.out b3)
  have HX3 := Lib.hid (HX2.out.below b3)
  have HY3 := Lib.hid (HY2.out.below b3)
  have c2 := box_cell Z1.out 2 _ rfl
  have d2 := box_cell Z2.out 2 _ rfl
  clear c1 d1 b3
  go_wp2_with fail
  refine (sameInts_any _ _ nc _ _ cs _ HX3.out.c HY3.out.c h3).mono ?_
  rintro e w4 ⟨rfl, b4⟩
  have B4 := Lib.hid (B3.out.trans (b4.mono B3.out.size))
  have c3 := box_cell (box_below Z1.out b4) 3 _ rfl
  have d3 := box_cell (box_below Z2.out b4) 3 _ rfl
  clear c2 d2 b4
  go_wp2
  go_ret
  exact ⟨ret_bool (by simp), B4.out⟩
end Go.Proofs.Ytcjmapdeopffcaa
