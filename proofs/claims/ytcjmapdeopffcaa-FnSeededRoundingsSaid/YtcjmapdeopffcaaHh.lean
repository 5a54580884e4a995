/- Several small texts in one: PuA, PuB. -/
import Derived.Test.YtcjmapdeopffcaaRnd
import Derived.Test.YtcjmapdeopffcaaHe
import Derived.BigQuiet
namespace Go.Proofs.Ytcjmapdeopffcaa

section
open Go.RowKit Flo
set_option linter.unusedVariables false

/-- What has been filled in so far: rows below i, and row i below column j. -/
def resP (t : Net) (x : Nat → Nat → Int) (i j u v : Nat) : Int :=
  if u < t.n ∧ t.n ≤ v ∧ (u < i ∨ (u = i ∧ v - t.n < j)) then t.hi u (v - t.n) - x u (v - t.n) else if t.n ≤ u ∧ v < t.n ∧ (v < i ∨ (v = i ∧ u - t.n < j)) then x v (u - t.n) - t.lo v (u - t.n) else 0
theorem ite2 {c1 c2 d1 d2 : Prop} [Decidable c1] [Decidable c2] [Decidable d1] [Decidable d2] {a b z : Int} (h1 : c1 ↔ d1) (h2 : c2 ↔ d2) : (if c1 then a else if c2 then b else z) = if d1 then a else if d2 then b else z := by
  by_cases e1 : c1
  · rw [if_pos e1, if_pos (h1.1 e1)]
  · rw [if_neg e1, if_neg (fun h => e1 (h1.2 h))]
    by_cases e2 : c2
    · rw [if_pos e2, if_pos (h2.1 e2)]
    · rw [if_neg e2, if_neg (fun h => e2 (h2.2 h))]
section
variable {t : Net} {x : Nat → Nat → Int} {i j u v : Nat}
theorem resP_start : resP t x 0 0 u v = 0 := by
  unfold resP
  rw [if_neg (by omega), if_neg (by omega)]
theorem resP_row (hu : u < t.n + t.m) (hv : v < t.n + t.m) : resP t x i t.m u v = resP t x (i + 1) 0 u v := by
  unfold resP
  exact ite2 (by omega) (by omega)
theorem resP_end (hu : u < t.n + t.m) (hv : v < t.n + t.m) : resP t x t.n 0 u v = roomV t x u v := by
  unfold resP roomV
  exact ite2 (by omega) (by omega)
theorem resP_step (hi : i < t.n) : updM (updM (resP t x i j) i (t.n + j) (t.hi i j - x i j)) (t.n + j) i (x i j - t.lo i j) u v = resP t x i (j + 1) u v := by
  unfold updM
  by_cases h1 : u = t.n + j ∧ v = i
  · rw [if_pos h1, h1.1, h1.2]
    unfold resP
    rw [if_neg (by omega), if_pos (by omega), Nat.add_sub_cancel_left]
  · rw [if_neg h1]
    by_cases h2 : u = i ∧ v = t.n + j
    · rw [if_pos h2, h2.1, h2.2]
      unfold resP
      rw [if_pos (by omega), Nat.add_sub_cancel_left]
    · rw [if_neg h2]
      unfold resP
      exact ite2 (by omega) (by omega)
end
end

section
open Go.RowKit Flo
set_option linter.unusedVariables false

set_option maxRecDepth 100000 in
set_option maxHeartbeats 8000000 in
theorem residual_any (n m : Nat) (R C L H X : Option Addr) (rc cc lc hc xc : Nat) (t : Net) (x : Nat → Nat → Int) (w : World) (en : t.n = n) (em : t.m = m) (hN : NetR w R C L H t) (hX : MatR w X n m x) (ht : NetB t) (hin : InB t x) :
    Calls Try.prog 94 #[.agg #[.slice R n rc, .slice C m cc, .slice L n lc, .slice H n hc], .slice X n xc, .int .i64 (-1)] w fun e w' => ∃ (A : Option Addr) (ca : Nat), e = .returned (.slice A (n + m) ca) ∧ Mat w' w.heap.size w'.heap.size A (n + m) ca (n + m) (roomV t x) ∧ Below w.heap.size w w' := by
  have h8 := ht.n8
  have h8' := ht.m8
  rw [en] at h8
  rw [em] at h8'
  have HT := Lib.hid ht
  have HI := Lib.hid hin
  have EN := Lib.hid en
  have EM := Lib.hid em
  obtain ⟨T0, hT0⟩ : ∃ T0, w.heap.size = T0 := ⟨_, rfl⟩
  have HT0 := Lib.hid hT0
  have b0 := below_new w (.cells #[.slice R n rc, .slice C m cc, .slice L n lc, .slice H n hc] 54)
  have x0 := box_new w #[.slice R n rc, .slice C m cc, .slice L n lc, .slice H n hc] 54
  have hz1 : (w.alloc (.cells #[.slice R n rc, .slice C m cc, .slice L n lc, .slice H n hc] 54)).heap.size = T0 + 1 := by rw [← HT0.out]; simp
  have HN := Lib.hid (hN.below b0)
  have HX := Lib.hid (IntsS.below hX b0)
  rw [hT0] at x0
  have c0 := box_cell x0 0 (.slice R n rc) rfl
  have c1 := box_cell x0 1 (.slice C m cc) rfl
  have B0 := Lib.hid b0
  have X0 := Lib.hid x0
  have HZ1 := Lib.hid hz1
  obtain ⟨i0, hi, hz0, hz1', hz2⟩ := info_parts Try.infoIntS
  obtain ⟨i1, hi1, hz01, hz11, hz21⟩ := info_parts Try.infoInt
  clear hN hX ht hin en em b0 x0 hz1
  go_enter Try.func94, Try.ntmps94
  go_wp2_with fail
  generalize w.alloc (.cells #[.slice R n rc, .slice C m cc, .slice L n lc, .slice H n hc] 54) = w1 at *
  go_quiet (fail)
  have hsz : (w1.drewN nq).heap.size = T0 + 1 := HZ1.out
  have hszl : T0 + 1 ≤ (w1.drewN nq).heap.size := by rw [hsz]; exact Nat.le_refl _
  clear hsz
  go_wp2_with (at_make; refine wpList_make_full _ rfl _ _ 22 rfl (T0 + 1) 24 i0 _ 1 Try.underlying22 hi hz0 hz1' .i64 .i64 _ _ (n + m) rfl rfl rfl rfl (by rw [hz2]; omega) (by unfold maxLen; omega) hszl ?_; intro w3 hown hg)
  have hgz : (w1.drewN nq).heap.size = T0 + 1 := HZ1.out
  rw [hgz] at hown
  have hA : ∀ z, 0 ≤ z → z < n + m → (madeCells (Value.slice none 0 0).cells ((n + m) * 1)).toList[z]? = some (.slice none 0 0) := fun z _ hz => by have h := madeRows (n + m) z hz; simp only [Nat.mul_one, Nat.add_zero] at h ⊢; exact h
  have hS : Sub w3 (T0 + 1) w3.heap.size (madeCells (Value.slice none 0 0).cells ((n + m) * 1)).toList 1 0 (upTo (fun _ => lst (n + m) (fun _ => 0)) 0) 0 (n + m) := Sub.nils (fun j hj => madeRows (n + m) j hj) (fun j _ => by simp [upTo])
  generalize (madeCells (Value.slice none 0 0).cells ((n + m) * 1)).toList = ys0 at *
  have hb1 : Below w1.heap.size w1 w3 := (below_drewN (Below.refl _ _) _).grown hg (by simp) (by simp)
  have HA := Lib.hid hA
  have HOw := Lib.hid hown
  have HSb := Lib.hid hS
  have HB3 := Lib.hid hb1
  try rw [HZ1.out]
  clear hg hi hz0 hz1' hz2 hA hown hS hb1 hgz hszl c0 c1
  go_loopw [27] (fun i wr => ∃ (k : Nat) (ys : List Value), k ≤ n + m ∧ i = .int .i64 k ∧ Hid (∀ z, k ≤ z → z < n + m → ys[z]? = some (.slice none 0 0)) ∧ Hid (wr.ownsRow (T0 + 1) 24 1 (.slice (some ⟨T0 + 1, 0, none⟩) (n + m) (n + m)) (n + m) ys) ∧ Hid (Sub wr (T0 + 1) wr.heap.size ys 1 0 (upTo (fun _ => lst (n + m) (fun _ => 0)) k) 0 (n + m)) ∧ Hid (Below w1.heap.size w1 wr)) (fun i _ => (n + m) - (intOf i).toNat)
  case atStart => exact ⟨0, _, Nat.zero_le _, rfl, HA, HOw, HSb, HB3⟩
  case round =>
    clear HA HOw HSb HB3
    obtain ⟨k, ys, hk, rfl, hag, hown, hsub, hbw⟩ := hrel
    have hzr : T0 + 1 ≤ wr.heap.size := by have := hbw.out.size; rw [HZ1.out] at this; exact this
    by_cases hlt : k < n + m
    · have R1 := Lib.hid (fun w2 V2 c2 (hb : Below wr.heap.size wr w2) => rowsTo_step (V2n := n + m) (c2 := c2) (V2 := V2) hag.out hown.out hsub.out hzr hlt hb (lst_len _ _))
      have HMK := Lib.hid (fun (w2 : World) (h : w2.ownsRow wr.heap.size 3 1 (.slice (some ⟨wr.heap.size, 0, none⟩) (n + m) (n + m)) (n + m) (madeCells (Value.int .i64 0).cells ((n + m) * 1)).toList) (hg : wr.grownBy w2 none) => (show Below wr.heap.size wr w2 ∧ OwnI w2 wr.heap.size w2.heap.size (some ⟨wr.heap.size, 0, none⟩) (n + m) (n + m) (lst (n + m) (fun _ => 0)) from by
        rw [map_replicate0, rep_lst] at h
        exact ⟨(Below.refl _ _).grown hg (Nat.le_refl _) (by simp), OwnI.of_own h (by omega)⟩))
      clear hag
      go_wp2_with (at_make; refine wpList_make_full _ rfl _ _ 24 rfl wr.heap.size 3 i1 _ 1 Try.underlying24 hi1 hz01 hz11 .i64 .i64 _ _ (n + m) rfl rfl rfl rfl (by rw [hz21]; omega) (by unfold maxLen; omega) (Nat.le_refl _) ?_; intro w5 hown5 hg5; obtain ⟨hb2, o2⟩ := HMK.out w5 hown5 hg5; obtain ⟨zs, r1, r2, r3⟩ := R1.out w5 _ _ hb2 o2; have R2 := Lib.hid r1; have R3 := Lib.hid r2; have R4 := Lib.hid r3; have R5 := Lib.hid (hbw.out.trans (hb2.mono hbw.out.size)); have R6 := Lib.hid (row_below hown.out hb2); obtain ⟨⟨u0, hu0⟩, hf0⟩ := row_one R6.out hlt; clear r1 r2 r3 o2 hb2 hown5 hg5)
      go_roundw
      case rel => exact ⟨k + 1, zs, by omega, by go_num, R2, R3, Lib.hid (R4.out.fit (Nat.le_refl _)), Lib.hid (R5.out.setCell (by rw [HZ1.out]; exact Nat.le_refl _) _)⟩
      case measure => simp [intOf]; omega
    · obtain ⟨K, hK⟩ : ∃ K, k = K := ⟨_, rfl⟩
      have hkn : k = n + m := by omega
      have HM0 : Hid (Mat wr (T0 + 1) wr.heap.size (some ⟨T0 + 1, 0, none⟩) (n + m) (n + m) (n + m) (resP t x 0 0)) := Lib.hid (by
        subst hkn
        exact mat_fn (f := fun _ _ => 0) ⟨⟨ys, hown.out, hsub.out.fn fun j _ hj => by simp [upTo, hj]⟩, fun g hg => (World.ownsRow.lt hown.out g (by simpa [rowOf, Value.ownBlock] using hg)).2, by omega⟩ fun i j _ _ => resP_start)
      obtain ⟨hzz, hhz⟩ : ∃ hzz, wr.heap.size = hzz := ⟨_, rfl⟩
      rw [hhz] at HM0
      have hz2 : hzz ≤ wr.heap.size := by omega
      clear hown hsub hag hk hkn hK hhz
      go_wp2_with fail
      clear hlt
      go_loopw [40] (fun iv wr => ∃ i : Nat, i ≤ n ∧ iv = .int .i64 i ∧ Hid (Mat wr (T0 + 1) hzz (some ⟨T0 + 1, 0, none⟩) (n + m) (n + m) (n + m) (resP t x i 0)) ∧ Hid (Below w1.heap.size w1 wr) ∧ hzz ≤ wr.heap.size) (fun iv _ => n - (intOf iv).toNat)
      case atStart => exact ⟨0, Nat.zero_le _, rfl, HM0, hbw, hz2⟩
      case round =>
        clear HM0 hbw hz2 hzr
        obtain ⟨i, hi', rfl, HM, hbw, hz2⟩ := hrel
        by_cases hlt : i < n
        · obtain ⟨ax, rfl, V, cv, cx, hv⟩ := matR_row (IntsS.below HX.out hbw.out) hlt
          obtain ⟨ax2, e2, V2, cv2, cx2, hv2⟩ := matR_row HX.out hlt
          obtain rfl : ax = ax2 := Option.some.inj e2
          have hcx := (hbw.out.cell (block_lt_of_cell cx2)).trans cx2
          rw [cx] at hcx
          injection hcx with hcx
          injection hcx with hV _ hcv
          subst hV hcv
          have HV := Lib.hid hv2
          clear hv hv2 cx2 e2
          go_wp2_with fail
          clear cx
          go_loopw [47] (fun jv wr => ∃ j : Nat, j ≤ m ∧ jv = .int .i64 j ∧ Hid (Mat wr (T0 + 1) hzz (some ⟨T0 + 1, 0, none⟩) (n + m) (n + m) (n + m) (resP t x i j)) ∧ Hid (Below w1.heap.size w1 wr) ∧ hzz ≤ wr.heap.size) (fun jv _ => m - (intOf jv).toNat)
          case atStart => exact ⟨0, Nat.zero_le _, rfl, HM, hbw, hz2⟩
          case round =>
            clear HM hbw hz2
            obtain ⟨j, hj, rfl, HM, hbw, hz2⟩ := hrel
            by_cases hlj : j < m
            · obtain ⟨bh, vh, ch, eh, p1, p2⟩ := matR_cell (IntsS.below HN.out.hi hbw.out) (by rw [EN.out]; exact hlt) (by rw [EM.out]; exact hlj)
              rw [EM.out] at p1
              subst eh
              obtain ⟨vx, eV, px⟩ : ∃ vx : Addr, V = some vx ∧ wr.cell? (vx.add j) = some (.int .i64 (x i j)) := by
                obtain ⟨vx, e1, e2⟩ := vecR_at (Ints.below HV.out hbw.out) hlj
                exact ⟨vx, e1, e2⟩
              have EV := Lib.hid eV
              have c3 := box_cell (box_below X0.out hbw.out) 3 (.slice (some bh) n hc) rfl
              obtain ⟨g0, g, cg, eA, k1, k2, k3, k4, k5, k6, k7, k8, k9, k10, back⟩ := mat_cell HM.out (i := i) (j := n + j) (by omega) (by omega)
              obtain rfl : g0 = T0 + 1 := (congrArg Addr.block (Option.some.inj eA)).symm
              have hi1b := HI.out i j (by rw [EN.out]; exact hlt) (by rw [EM.out]; exact hlj)
              have hb2 := HT.out.b i j (by rw [EN.out]; exact hlt) (by rw [EM.out]; exact hlj)
              have hin1 : (i : Int) < (n : Int) + (m : Int) := by omega
              have hin2 : (n : Int) + (j : Int) < (n : Int) + (m : Int) := by omega
              have hp0 : 0 ≤ (i : Int) * (m : Int) := by exact_mod_cast Nat.zero_le (i * m)
              have hp1 : (i : Int) * (m : Int) ≤ 64 := by exact_mod_cast Nat.mul_le_mul (show i ≤ 8 by omega) h8'
              go_wp2
              go_region
              go_wp2
              have HM2 := Lib.hid ((back (t.hi i j - x i j)).below (Below.refl _ _).drew)
              have HB2 := Lib.hid (((hbw.out.setCell (show w1.heap.size ≤ (⟨g, n + j, none⟩ : Addr).block by rw [HZ1.out]; exact k4) (.int .i64 (t.hi i j - x i j))).drew))
              have hz3 : hzz ≤ ((wr.setCell ⟨g, n + j, none⟩ (.int .i64 (t.hi i j - x i j))).drew).heap.size := by simpa using hz2
              obtain ⟨w4, hw4⟩ : ∃ w4, w4 = (wr.setCell ⟨g, n + j, none⟩ (.int .i64 (t.hi i j - x i j))).drew := ⟨_, rfl⟩
              rw [← hw4] at HM2 HB2 hz3
              try rw [← hw4]
              clear hw4 back k1 k2 k3 k4 k5 k6 k7 k8 k9 k10 p1 p2 c3 hbw HM px hz2
              obtain ⟨bl, vl, cl', el, p3, p4⟩ := matR_cell (IntsS.below HN.out.lo HB2.out) (by rw [EN.out]; exact hlt) (by rw [EM.out]; exact hlj)
              rw [EM.out] at p3
              subst el
              have c2 := box_cell (box_below X0.out HB2.out) 2 (.slice (some bl) n lc) rfl
              obtain ⟨g0, g, cg, eA, k1, k2, k3, k4, k5, k6, k7, k8, k9, k10, back⟩ := mat_cell HM2.out (i := n + j) (j := i) (by omega) (by omega)
              obtain rfl : g0 = T0 + 1 := (congrArg Addr.block (Option.some.inj eA)).symm
              have HM3 := Lib.hid ((mat_fn (back (x i j - t.lo i j)) fun u v _ _ => (by
                have h1 := resP_step (t := t) (x := x) (i := i) (j := j) (u := u) (v := v) (by rw [EN.out]; exact hlt)
                rw [EN.out] at h1
                exact h1.symm : resP t x i (j + 1) u v = _)).below (Below.refl _ _).drew)
              have HB3 := Lib.hid (((HB2.out.setCell (show w1.heap.size ≤ (⟨g, i, none⟩ : Addr).block by rw [HZ1.out]; exact k4) (.int .i64 (x i j - t.lo i j))).drew))
              have hz4 : hzz ≤ ((w4.setCell ⟨g, i, none⟩ (.int .i64 (x i j - t.lo i j))).drew).heap.size := by simpa using hz3
              clear back
              go_region
              go_wp2
              go_roundw
              case rel =>
                refine ⟨.int .i64 j, .int .i64 (x i j), .int .i64 ((j : Int) + 1), ⟨j + 1, by omega, by simp, HM3⟩, ?_⟩
                repeat' first | exact rfl | exact EV.out.symm | exact EV.out | refine ⟨?_, ?_⟩
              case measure => simp [intOf]; omega
            · obtain rfl : j = m := by omega
              have HM2 : Hid (Mat wr (T0 + 1) hzz (some ⟨T0 + 1, 0, none⟩) (n + j) (n + j) (n + j) (resP t x (i + 1) 0)) := Lib.hid (mat_fn HM.out fun u v hu hv => by
                have h1 := resP_row (t := t) (x := x) (i := i) (u := u) (v := v) (by rw [EN.out, EM.out]; exact hu) (by rw [EN.out, EM.out]; exact hv)
                rw [EM.out] at h1
                exact h1.symm)
              go_wp2
              go_roundw
              case rel => exact ⟨i + 1, by omega, by go_num, HM2, hbw, hz2⟩
              case measure => simp [intOf]; omega
        · obtain rfl : i = n := by omega
          have HM2 := Lib.hid (mat_fn HM.out fun u v hu hv => (show roomV t x u v = resP t x i 0 u v from by
            have h1 := resP_end (t := t) (x := x) (u := u) (v := v) (by rw [EN.out, EM.out]; exact hu) (by rw [EN.out, EM.out]; exact hv)
            rw [EN.out] at h1
            exact h1.symm))
          have HB2 := Lib.hid (B0.out.trans (hbw.out.mono B0.out.size))
          go_wp2
          go_ret
          exact ⟨some ⟨T0 + 1, 0, none⟩, i + m, rfl, mat_lower HM2.out (by rw [HT0.out]; omega), HB2.out⟩
end
end Go.Proofs.Ytcjmapdeopffcaa
