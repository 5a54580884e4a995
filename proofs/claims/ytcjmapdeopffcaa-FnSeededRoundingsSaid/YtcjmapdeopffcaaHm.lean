/- Several small texts in one: PuV, PuW. -/
import Derived.Test.YtcjmapdeopffcaaHk
import Derived.Test.YtcjmapdeopffcaaMyL
namespace Go.Proofs.Ytcjmapdeopffcaa

section
open Go.RowKit Flo
set_option linter.unusedVariables false

/-- A rounding in memory of the call's own. -/
structure RndP (w : World) (B : Nat) (X R C : Option Addr) (n m xc rc cc : Nat) (y : Nat → Nat → Int) : Prop where
  ex : ∃ x0 x1 r0 r1 c0 c1, Mat w x0 x1 X n xc m y ∧ Vec w r0 r1 R n rc (rowS m y) ∧ Vec w c0 c1 C m cc (colS n y) ∧ B ≤ x0 ∧ B ≤ r0 ∧ B ≤ c0 ∧ (x1 ≤ r0 ∨ r1 ≤ x0) ∧ (x1 ≤ c0 ∨ c1 ≤ x0) ∧ (r1 ≤ c0 ∨ c1 ≤ r0)
theorem RndP.fn {w : World} {B n m xc rc cc : Nat} {X R C : Option Addr} {x y : Nat → Nat → Int} (h : RndP w B X R C n m xc rc cc x) (he : ∀ i j, i < n → j < m → y i j = x i j) : RndP w B X R C n m xc rc cc y := by
  obtain ⟨x0, x1, r0, r1, c0, c1, a, r, c, hh⟩ := h.ex
  exact ⟨x0, x1, r0, r1, c0, c1, mat_fn a he, vec_fn r fun i hi => rowS_fn fun j hj => he i j hi hj, vec_fn c fun j hj => colS_fn fun i hi => he i j hi hj, hh⟩
theorem RndP.chg {w w' : World} {B n m xc rc cc g : Nat} {X R C : Option Addr} {x : Nat → Nat → Int} (h : RndP w B X R C n m xc rc cc x) (hc : Chg g (g + 1) w w') (hg : g < B) : RndP w' B X R C n m xc rc cc x := by
  obtain ⟨x0, x1, r0, r1, c0, c1, a, r, c, b1, b2, b3, hh⟩ := h.ex
  exact ⟨x0, x1, r0, r1, c0, c1, a.chg hc (.inr (by omega)), r.chg hc (.inr (by omega)), c.chg hc (.inr (by omega)), b1, b2, b3, hh⟩
theorem RndP.mono {w : World} {B B' n m xc rc cc : Nat} {X R C : Option Addr} {x : Nat → Nat → Int} (h : RndP w B X R C n m xc rc cc x) (hB : B' ≤ B) : RndP w B' X R C n m xc rc cc x := by
  obtain ⟨x0, x1, r0, r1, c0, c1, a, r, c, b1, b2, b3, hh⟩ := h.ex
  exact ⟨x0, x1, r0, r1, c0, c1, a, r, c, by omega, by omega, by omega, hh⟩
theorem RndP.below {w w' : World} {B n m xc rc cc : Nat} {X R C : Option Addr} {x : Nat → Nat → Int} (h : RndP w B X R C n m xc rc cc x) (hb : Below w.heap.size w w') : RndP w' B X R C n m xc rc cc x := by
  obtain ⟨x0, x1, r0, r1, c0, c1, a, r, c, hh⟩ := h.ex
  exact ⟨x0, x1, r0, r1, c0, c1, a.below hb, r.below hb, c.below hb, hh⟩

set_option maxRecDepth 100000 in
set_option maxHeartbeats 8000000 in
theorem summed_any (n m : Nat) (A : Option Addr) (ca : Nat) (x : Nat → Nat → Int) (w : World) (hx : MatR w A n m x) (h1n : 1 ≤ n) (hn : n ≤ 8) (h1m : 1 ≤ m) (hm : m ≤ 8) (hb : ∀ i j, i < n → j < m → 0 ≤ x i j ∧ x i j ≤ 1000000) :
    Calls Try.prog 53 #[.slice A n ca] w fun e w' => ∃ (X R C : Option Addr) (xc rc cc : Nat), e = .returned (.agg #[.slice X n xc, .slice R n rc, .slice C m cc, .int .i64 (totS n m x)]) ∧ RndP w' w.heap.size X R C n m xc rc cc x ∧ Below w.heap.size w w' := by
  obtain ⟨hrb, hcb, htb⟩ := rndBd hn hm hb
  have HRB := Lib.hid hrb
  have HCB := Lib.hid hcb
  obtain ⟨T0, hT0⟩ : ∃ T0, w.heap.size = T0 := ⟨_, rfl⟩
  have HT0 := Lib.hid hT0
  have b0 := below_new w (.cells #[.slice none 0 0, .slice none 0 0, .slice none 0 0, .int .i64 0] 26)
  have x0 := box_new w #[.slice none 0 0, .slice none 0 0, .slice none 0 0, .int .i64 0] 26
  have hz1 : (w.alloc (.cells #[.slice none 0 0, .slice none 0 0, .slice none 0 0, .int .i64 0] 26)).heap.size = T0 + 1 := by rw [← HT0.out]; simp
  have HX1 := Lib.hid (IntsS.below hx b0)
  have HXB : Hid (∀ i j, i < n → j < m → 0 ≤ x i j ∧ x i j ≤ 1000000000) := Lib.hid (fun i j hi hj => by have := hb i j hi hj; omega)
  rw [hT0] at x0
  have B0 := Lib.hid b0
  have X0 := Lib.hid x0
  have HZ1 := Lib.hid hz1
  clear hx b0 x0 hz1 hb hrb hcb htb
  go_enter Try.func53, Try.ntmps53
  go_wp2_with fail
  generalize w.alloc (.cells #[.slice none 0 0, .slice none 0 0, .slice none 0 0, .int .i64 0] 26) = w1 at *
  refine (rowSums_any A n ca m x _ HX1.out (by omega) (by omega) HXB.out).mono ?_
  rintro e w2 ⟨R, rc, rfl, o2, b2⟩
  have HO2 := Lib.hid o2
  have HB2 := Lib.hid b2
  clear o2 b2
  go_wp2_with fail
  refine (copyMatrix_any A n ca _ _ (IntsS.below HX1.out HB2.out) (by omega) (fun j _ => by rw [lst_len]; omega)).mono ?_
  rintro e w3 ⟨X, xc, rfl, o3, b3⟩
  have HO3 := Lib.hid o3
  have HB3 := Lib.hid b3
  have HB23 := Lib.hid (HB2.out.trans (b3.mono HB2.out.size))
  clear o3 b3
  go_wp2_with fail
  refine (colSums_any A n ca m x _ (IntsS.below HX1.out HB23.out) (by omega) (by omega) (by omega) HXB.out).mono ?_
  rintro e w4 ⟨C, cc, rfl, o4, b4⟩
  have HO4 := Lib.hid o4
  have HB4 := Lib.hid b4
  have HB34 := Lib.hid (HB3.out.trans (b4.mono HB3.out.size))
  have HB24 := Lib.hid (HB23.out.trans (b4.mono HB23.out.size))
  clear o4 b4
  go_wp2_with fail
  refine (total_any R n rc (rowS m x) _ (HO2.out.below HB34.out).ints (by omega) (fun k hk => by have := HRB.out k hk; omega)).mono ?_
  rintro e w5 ⟨rfl, rfl⟩
  have HX4 := Lib.hid (box_below X0.out HB24.out)
  have hx4 := box4 (a := .slice X n xc) (b := .slice R n rc) (c := .slice C m cc) (d := .int .i64 (sm n (rowS m x))) HX4.out
  have hc4 := chg4 (w := w4) (g := T0) (a := .slice X n xc) (b := .slice R n rc) (c := .slice C m cc) (d := .int .i64 (sm n (rowS m x)))
  have s1 := HB2.out.size
  have s2 := HB3.out.size
  have s3 := HB4.out.size
  have z1 := HZ1.out
  have HP := Lib.hid (RndP.chg (g := T0) (B := T0 + 1) ⟨w2.heap.size, w3.heap.size, w1.heap.size, w2.heap.size, w3.heap.size, w4.heap.size, HO3.out.below HB4.out, HO2.out.below HB34.out, HO4.out, by omega, by omega, by omega, .inr (Nat.le_refl _), .inl (Nat.le_refl _), .inl (by omega)⟩ hc4 (by omega))
  have HBF := Lib.hid (hc4.below (B0.out.trans (HB24.out.mono B0.out.size)) (by rw [HT0.out]; exact Nat.le_refl _) (Nat.le_trans B0.out.size HB24.out.size))
  have z0 := box_cell HX4.out 0 (.slice none 0 0) rfl
  have z1 := box_cell HX4.out 1 (.slice none 0 0) rfl
  have z2 := box_cell HX4.out 2 (.slice none 0 0) rfl
  have z3 := box_cell HX4.out 3 (.int .i64 0) rfl
  have y0 := box_free HX4.out 0
  have y1 := box_free HX4.out 1
  have y2 := box_free HX4.out 2
  have y3 := box_free HX4.out 3
  have v0 := box_cell hx4 0 (.slice X n xc) rfl
  have v1 := box_cell hx4 1 (.slice R n rc) rfl
  have v2 := box_cell hx4 2 (.slice C m cc) rfl
  have v3 := box_cell hx4 3 (.int .i64 (sm n (rowS m x))) rfl
  clear hx4 hc4 s1 s2 s3
  go_wp2
  refine bodyPost_ret (v := .agg #[.slice X n xc, .slice R n rc, .slice C m cc, .int .i64 (sm n (rowS m x))]) (by simp [results, Try.results53, go_sem, v0, v1, v2, v3]) rfl ⟨X, R, C, xc, rc, cc, rfl, HP.out.mono (by rw [HT0.out]; omega), HBF.out⟩
end

section
open Go.RowKit Flo
set_option linter.unusedVariables false

set_option maxRecDepth 100000 in
set_option maxHeartbeats 8000000 in
theorem roundingOf_any (n m : Nat) (b : Int) (A FA : Option Addr) (ca cf : Nat) (x fl : Nat → Nat → Int) (w : World) (hx : MatR w A n m x) (hf : MatR w FA (n + 1) (m + 1) fl) (h1n : 1 ≤ n) (hn : n ≤ 7) (h1m : 1 ≤ m) (hm : m ≤ 7) (hb : ∀ i j, i < n → j < m → 0 ≤ fl i j * b ∧ fl i j * b ≤ 1000000) :
    Calls Try.prog 42 #[.slice A n ca, .int .i64 b, .slice FA (n + 1) cf] w fun e w' => ∃ (X R C : Option Addr) (xc rc cc : Nat), e = .returned (.agg #[.slice X n xc, .slice R n rc, .slice C m cc, .int .i64 (totS n m (fun i j => fl i j * b))]) ∧ RndP w' w.heap.size X R C n m xc rc cc (fun i j => fl i j * b) ∧ Below w.heap.size w w' := by
  obtain ⟨T0, hT0⟩ : ∃ T0, w.heap.size = T0 := ⟨_, rfl⟩
  have HT0 := Lib.hid hT0
  have b0 := below_new w (.cells #[.slice none 0 0, .slice none 0 0, .slice none 0 0, .int .i64 0] 26)
  have x0 := box_new w #[.slice none 0 0, .slice none 0 0, .slice none 0 0, .int .i64 0] 26
  have hz1 : (w.alloc (.cells #[.slice none 0 0, .slice none 0 0, .slice none 0 0, .int .i64 0] 26)).heap.size = T0 + 1 := by rw [← HT0.out]; simp
  have HX1 := Lib.hid (IntsS.below hx b0)
  have HF1 := Lib.hid (IntsS.below hf b0)
  have HBB := Lib.hid hb
  rw [hT0] at x0
  have B0 := Lib.hid b0
  have X0 := Lib.hid x0
  have HZ1 := Lib.hid hz1
  clear hx hf b0 x0 hz1 hb
  go_enter Try.func42, Try.ntmps42
  go_wp2_with fail
  generalize w.alloc (.cells #[.slice none 0 0, .slice none 0 0, .slice none 0 0, .int .i64 0] 26) = w1 at *
  refine (copyMatrix_any A n ca _ _ HX1.out (by omega) (fun j _ => by rw [lst_len]; omega)).mono ?_
  rintro e w2 ⟨Y, yc, rfl, hM, hb2⟩
  rw [HZ1.out] at hM
  have HM : Hid (Mat w2 (T0 + 1) w2.heap.size Y n yc m (resM x (fun i j => fl i j * b) 0 0)) := Lib.hid (mat_fn hM fun i j _ _ => resM_start)
  have HB : Hid (Below w1.heap.size w1 w2) := Lib.hid hb2
  obtain ⟨hzz, hhz⟩ : ∃ hzz, w2.heap.size = hzz := ⟨_, rfl⟩
  rw [hhz] at HM
  have hz2 : hzz ≤ w2.heap.size := by omega
  clear hM hb2 hhz
  go_wp2_with fail
  go_loopw [15] (fun iv wr => ∃ i : Nat, i ≤ n ∧ iv = .int .i64 i ∧ Hid (Mat wr (T0 + 1) hzz Y n yc m (resM x (fun i j => fl i j * b) i 0)) ∧ Hid (Below w1.heap.size w1 wr) ∧ hzz ≤ wr.heap.size) (fun iv _ => n - (intOf iv).toNat)
  case atStart => exact ⟨0, Nat.zero_le _, rfl, HM, HB, hz2⟩
  case round =>
    clear HM HB hz2
    obtain ⟨i, hi, rfl, HM, HB, hz2⟩ := hrel
    by_cases hlt : i < n
    · obtain ⟨g0, g, cg, eA, k1, _, _, _, _, _, _, _, _, k10, _⟩ := mat_cell HM.out hlt (show 0 < m by omega)
      subst eA
      have HH : Hid (wr.cell? ⟨g0, i, none⟩ = some (.slice (some ⟨g, 0, none⟩) m cg)) := Lib.hid k1
      go_wp2_with fail
      clear k1
      go_loopw [22] (fun jv wr => ∃ j : Nat, j ≤ m ∧ jv = .int .i64 j ∧ Hid (Mat wr (T0 + 1) hzz (some ⟨g0, 0, none⟩) n yc m (resM x (fun i j => fl i j * b) i j)) ∧ Hid (Below w1.heap.size w1 wr) ∧ hzz ≤ wr.heap.size ∧ Hid (wr.cell? ⟨g0, i, none⟩ = some (.slice (some ⟨g, 0, none⟩) m cg))) (fun jv _ => m - (intOf jv).toNat)
      case atStart => exact ⟨0, Nat.zero_le _, rfl, HM, HB, hz2, HH⟩
      case round =>
        clear HM HB hz2 HH
        obtain ⟨j, hj, rfl, HM, HB, hz2, HH⟩ := hrel
        by_cases hlj : j < m
        · obtain ⟨g0', g', cg', eA, k1, k2, k3, k4, k5, k6, k7, k8, k9, k10', back⟩ := mat_cell HM.out hlt hlj
          obtain rfl : g0 = g0' := congrArg Addr.block (Option.some.inj eA)
          rw [HH.out] at k1
          injection k1 with k1
          injection k1 with k1 _ _
          injection k1 with k1
          injection k1 with k1
          subst k1
          obtain ⟨bf, vf, cf', ef, p1, p2⟩ := matR_cell (IntsS.below HF1.out HB.out) (i := i) (j := j) (by omega) (by omega)
          subst ef
          have hv := HBB.out i j hlt hlj
          have W1 : IntKind.i64.wrap (fl i j * b) = fl i j * b := IntWalk.i64_in _ ⟨by omega, by omega⟩
          have HM2 := Lib.hid (mat_fn (back (fl i j * b)) fun u v _ _ => (resM_step (x := x) (y := fun i j => fl i j * b) (i := i) (j := j) u v).symm)
          have HB2 := Lib.hid (HB.out.setCell (show w1.heap.size ≤ (⟨g, j, none⟩ : Addr).block by rw [HZ1.out]; exact k4) (.int .i64 (fl i j * b)))
          have hz3 : hzz ≤ (wr.setCell ⟨g, j, none⟩ (.int .i64 (fl i j * b))).heap.size := by simpa using hz2
          have HH2 : Hid ((wr.setCell ⟨g, j, none⟩ (.int .i64 (fl i j * b))).cell? ⟨g0, i, none⟩ = some (.slice (some ⟨g, 0, none⟩) m cg)) := Lib.hid ((World.cell?_setCell_other _ _ _ _ (fun h => k10 (congrArg Addr.block h))).trans HH.out)
          clear back eA HM HB hz2 HH k4 k5 k6 k7 k8 k9 k10'
          go_wp2
          go_roundw
          case rel => exact ⟨j + 1, by omega, by go_num, HM2, HB2, hz3, HH2⟩
          case measure => simp [intOf]; omega
        · obtain rfl : m = j := by omega
          have HM2 := Lib.hid (mat_fn HM.out fun u v _ hv => (resM_row (x := x) (y := fun i j => fl i j * b) (i := i) (u := u) hv).symm)
          go_wp2
          go_roundw
          case rel => exact ⟨i + 1, by omega, by go_num, HM2, HB, hz2⟩
          case measure => simp [intOf]; omega
    · obtain rfl : n = i := by omega
      have HMF := Lib.hid (OwnII.read (mat_fn HM.out fun u v hu _ => (resM_end (x := x) (y := fun i j => fl i j * b) (v := v) hu).symm))
      go_wp2_with fail
      refine (summed_any n m Y yc (fun i j => fl i j * b) _ HMF.out h1n (by omega) h1m (by omega) HBB.out).mono ?_
      rintro e w5 ⟨X, R, C, xc, rc, cc, rfl, hP, b5⟩
      have HB5 := Lib.hid (HB.out.trans (b5.mono HB.out.size))
      have HX4 := Lib.hid (box_below X0.out HB5.out)
      obtain ⟨tt, htt⟩ : ∃ tt, tt = totS n m (fun i j => fl i j * b) := ⟨_, rfl⟩
      rw [← htt]
      have HTT := Lib.hid htt
      have hx4 := box4 (a := .slice X n xc) (b := .slice R n rc) (c := .slice C m cc) (d := .int .i64 tt) HX4.out
      have hc4 := chg4 (w := w5) (g := T0) (a := .slice X n xc) (b := .slice R n rc) (c := .slice C m cc) (d := .int .i64 tt)
      have s1 : T0 + 1 ≤ wr.heap.size := by have := HB.out.size; rw [HZ1.out] at this; exact this
      have HP := Lib.hid ((hP.chg hc4 (by omega)).mono (show w.heap.size ≤ wr.heap.size by rw [HT0.out]; omega))
      have HBF := Lib.hid (hc4.below (B0.out.trans (HB5.out.mono B0.out.size)) (by rw [HT0.out]; exact Nat.le_refl _) (Nat.le_trans B0.out.size HB5.out.size))
      have z0 := box_cell HX4.out 0 (.slice none 0 0) rfl
      have z1 := box_cell HX4.out 1 (.slice none 0 0) rfl
      have z2 := box_cell HX4.out 2 (.slice none 0 0) rfl
      have z3 := box_cell HX4.out 3 (.int .i64 0) rfl
      have y0 := box_free HX4.out 0
      have y1 := box_free HX4.out 1
      have y2 := box_free HX4.out 2
      have y3 := box_free HX4.out 3
      have v0 := box_cell hx4 0 (.slice X n xc) rfl
      have v1 := box_cell hx4 1 (.slice R n rc) rfl
      have v2 := box_cell hx4 2 (.slice C m cc) rfl
      have v3 := box_cell hx4 3 (.int .i64 tt) rfl
      clear hx4 hc4 hP b5 htt
      go_wp2
      refine bodyPost_ret (v := .agg #[.slice X n xc, .slice R n rc, .slice C m cc, .int .i64 tt]) (by simp [results, Try.results42, go_sem, v0, v1, v2, v3]) rfl ⟨X, R, C, xc, rc, cc, by rw [HTT.out], HP.out, HBF.out⟩
end
end Go.Proofs.Ytcjmapdeopffcaa
