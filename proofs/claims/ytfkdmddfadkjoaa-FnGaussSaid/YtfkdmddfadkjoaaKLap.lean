/- Laplace noise: the reference's. -/
import Derived.Test.YtfkdmddfadkjoaaLap
namespace Go.Proofs.Ytfkdmddfadkjoaa
open Go.RowKit

/-- The reference's exp, of a reader that may have failed before. -/
theorem kexp_ok (g : Nat) (s a n d : Int) (ok : Bool) (w : World) (h : RdrAt w g s a ok) (h0 : 0 ≤ a) (h1 : a ≤ 1000000) (hf : fracB n d = true) (hn0 : 0 ≤ n) :
    Calls Try.prog 115 #[.pointer (some ⟨g, 0, none⟩), .agg #[.int .i64 n, .int .i64 d]] w fun e w' => ∃ (z : Bool) (c : Int) (ok2 : Bool), e = .returned (.bool z) ∧ RdrAt w' g s c ok2 ∧ 0 ≤ c ∧ c ≤ 1000000 ∧ Hid ((ok2 = true → ok = true ∧ expM s n d a = some (z, c)) ∧ (ok2 = false → ok = false ∨ expM s n d a = none)) ∧ Chg g (g + 1) w w' := by
  cases ok
  · exact (kexp_dead g s a n d w h hf hn0).mono fun e w' ⟨he, hr, hc⟩ => ⟨false, a, false, he, hr, h0, h1, Lib.hid ⟨fun h9 => (by cases h9), fun _ => .inl rfl⟩, hc⟩
  · refine (kexp_any g s a n d w h h0 h1 hf hn0).mono ?_
    rintro e w' ⟨hyes, hno, hc⟩
    cases hM : expM s n d a with
    | none =>
      obtain ⟨z, he, c, hr, hc0, hc1⟩ := hno hM
      exact ⟨z, c, false, he, hr, hc0, hc1, Lib.hid ⟨fun h9 => (by cases h9), fun _ => .inr rfl⟩, hc⟩
    | some r =>
      obtain ⟨z, c⟩ := r
      obtain ⟨he, hr⟩ := hyes z c hM
      have hb := expM_bd hM h0 h1
      exact ⟨z, c, true, he, hr, hb.1, hb.2, Lib.hid ⟨fun _ => ⟨rfl, rfl⟩, fun h9 => (by cases h9)⟩, hc⟩

set_option maxRecDepth 100000 in
set_option maxHeartbeats 8000000 in
theorem klaplace_any (g : Nat) (s a t : Int) (w : World) (h : RdrAt w g s a true) (h0 : 0 ≤ a) (h1 : a ≤ 1000000) (ht : 1 ≤ t) (ht2 : t ≤ 1000) :
    Calls Try.prog 137 #[.pointer (some ⟨g, 0, none⟩), .int .i64 t] w (KPost (Value.int .i64) (.int .i64 0) g s (lapM s t a) w) := by
  have hlt := h.lt
  have HR := Lib.hid (show lapM s t a = lapT s t 200 a from rfl)
  generalize lapM s t a = R at *
  go_enter Try.func137, Try.ntmps137
  go_wp2_with fail
  go_loopw [5] (fun i wr => ∃ (k : Nat) (b : Int) (okj : Bool), k ≤ 200 ∧ i = .int .i64 k ∧ Hid ((okj = true → R = lapT s t (200 - k) b) ∧ (okj = false → R = none)) ∧ RdrAt wr g s b okj ∧ 0 ≤ b ∧ b ≤ 1000000 ∧ Chg g (g + 1) w wr) (fun i _ => 200 - (intOf i).toNat)
  case atStart => exact ⟨0, a, true, by omega, rfl, Lib.hid ⟨fun _ => HR.out, fun h9 => (by cases h9)⟩, h, h0, h1, Chg.refl _ _ _⟩
  case round =>
    clear h
    obtain ⟨k, b, okj, hk, rfl, hx, hs, hb0, hb1, hC⟩ := hrel
    have hgw := hs.lt
    have c2 := box_cell hs 2 _ rfl
    have f2 := box_free hs 2
    by_cases hlt2 : k < 200
    · cases okj
      · have E := Lib.hid (hx.out.2 rfl)
        have k3 : RdrAt (wr.setCell ⟨g, 2, none⟩ (.bool false)) g s b false := box_set hs 2 _
        have K3 := Lib.hid (hC.set (g := g) (i := 2) (v := .bool false) (Nat.le_refl _) (by omega))
        go_wp2
        go_ret
        exact KPost.no E.out k3 hb0 hb1 K3.out
      · have hs200 : 200 - k = (199 - k) + 1 := by omega
        replace hx := Lib.hid (hx.out.1 rfl)
        rw [hs200] at hx
        clear hs200
        have hkd : decide ((k : Int) < 200) = true := decide_eq_true (by omega)
        go_wp2_with fail
        refine (kbelow_any _ _ _ _ true _ hs hb0 hb1 ht (by omega)).mono ?_
        rintro e w2 ⟨hyes, hno, hc⟩
        rw [if_pos rfl] at hyes hno
        replace hC := hC.trans hc
        clear hc hs c2 f2
        -- the number that was read, alive or dead
        have HU : ∃ (u b2 : Int) (ok1 : Bool), e = .returned (.int .i64 u) ∧ 0 ≤ u ∧ u < t ∧ RdrAt w2 g s b2 ok1 ∧ 0 ≤ b2 ∧ b2 ≤ 1000000 ∧ Hid ((ok1 = true → belowM s t b = some (u, b2)) ∧ (ok1 = false → R = none)) := by
          cases hM : belowM s t b with
          | none =>
            obtain ⟨he, b2, hr, hb20, hb21⟩ := hno hM
            exact ⟨0, b2, false, he, by omega, by omega, hr, hb20, hb21, Lib.hid ⟨fun h9 => (by cases h9), fun _ => hx.out.trans (lapT_1 hM)⟩⟩
          | some r =>
            obtain ⟨u, b2⟩ := r
            obtain ⟨he, hr⟩ := hyes u b2 hM
            have hb := belowM_bd hM hb0 hb1
            exact ⟨u, b2, true, he, hb.1, hb.2.1, hr, hb.2.2.1, hb.2.2.2, Lib.hid ⟨fun _ => rfl, fun h9 => (by cases h9)⟩⟩
        obtain ⟨u, b2, ok1, rfl, hu0, hu1, hs2, hb20, hb21, hU⟩ := HU
        clear hyes hno
        obtain ⟨p, q, hr, hp0, _⟩ := redO_small ht (by omega) hu0 hu1
        have hpf := redO_frac hr
        have Hr := Lib.hid hr
        have HPF := Lib.hid hpf
        clear hr hpf
        go_wp2_with fail
        refine (fMake_any _ _ _ (by omega) (by omega) (by omega) (by omega)).mono ?_
        rintro e w3 ⟨rfl, b3⟩
        rw [Hr.out]
        simp only [fN, fD, fB]
        replace hs2 := hs2.below b3
        replace hC := hC.then_ b3
        clear b3
        go_wp2_with fail
        have b4 := below_new w3 (.cells #[.int .i64 p, .int .i64 q] 28)
        replace hs2 := hs2.below b4
        replace hC := hC.then_ b4
        clear b4
        generalize w3.alloc (.cells #[.int .i64 p, .int .i64 q] 28) = w4 at *
        refine (kexp_ok _ _ _ _ _ ok1 _ hs2 hb20 hb21 HPF.out hp0).mono ?_
        rintro e w5 ⟨z, b3, okk, rfl, hs3, hb30, hb31, hE, hc⟩
        replace hC := hC.trans hc
        clear hc hs2
        have hD : Hid (okk = false → R = none) := Lib.hid fun h9 => by
          rcases hE.out.2 h9 with h8 | h8
          · exact hU.out.2 h8
          · cases ok1
            · exact hU.out.2 rfl
            · exact hx.out.trans (lapT_2 (hU.out.1 rfl) Hr.out h8)
        cases z
        · have E : Hid (okk = true → R = lapT s t (199 - k) b3) := Lib.hid fun h9 => by
            obtain ⟨h8, h7⟩ := hE.out.1 h9
            exact hx.out.trans (lapT_3 (hU.out.1 h8) Hr.out h7)
          go_wp2
          go_roundw
          case rel => exact ⟨k + 1, b3, okk, by omega, by go_num, by rw [show 200 - (k + 1) = 199 - k by omega]; exact Lib.hid ⟨E.out, hD.out⟩, hs3, hb30, hb31, hC⟩
          case measure => simp [intOf]; omega
        · obtain ⟨I, hI⟩ : ∃ I, lapIn s 201 0 b3 = I := ⟨_, rfl⟩
          have E4 : Hid (okk = true → I = none → R = none) := Lib.hid fun h6 h9 => by
            obtain ⟨h8, h7⟩ := hE.out.1 h6
            exact hx.out.trans (lapT_4 (hU.out.1 h8) Hr.out h7 (hI.trans h9))
          have E5 : Hid (okk = true → ∀ v d, I = some (v, d) → R = if d < 1000000 then (if bitV s d = 0 then some (u + t * v, d + 1) else if 0 < u + t * v then some (-(u + t * v), d + 1) else lapT s t (199 - k) (d + 1)) else none) := Lib.hid fun h6 v d h9 => by
            obtain ⟨h8, h7⟩ := hE.out.1 h6
            exact hx.out.trans (lapT_5 (hU.out.1 h8) Hr.out h7 (hI.trans h9))
          have hI2 : Hid ((okk = true → okk = true ∧ I = lapIn s 201 0 b3) ∧ (okk = false → R = none)) := Lib.hid ⟨fun h9 => ⟨h9, hI.symm⟩, hD.out⟩
          clear hI hE Hr hU hx HPF hD
          go_wp2
          clear hkd
          go_loopw [9] (fun v w2 => ∃ (m : Nat) (c : Int) (ok2 : Bool), m ≤ 200 ∧ v = .int .i64 m ∧ Hid ((ok2 = true → okk = true ∧ I = lapIn s (201 - m) m c) ∧ (ok2 = false → R = none)) ∧ RdrAt w2 g s c ok2 ∧ 0 ≤ c ∧ c ≤ 1000000 ∧ Chg g (g + 1) w w2) (fun v _ => 201 - (intOf v).toNat)
          case atStart => exact ⟨0, b3, okk, by omega, rfl, hI2, hs3, hb30, hb31, hC⟩
          case round =>
            clear hs3 hC hb30 hb31 hI2
            obtain ⟨m, c, ok2, hm, rfl, hI2, hs, hc0, hc1, hC⟩ := hrel
            have hs200 : 201 - m = (200 - m) + 1 := by omega
            rw [hs200] at hI2
            clear hs200
            go_wp2_with fail
            refine (fInt_any _ _).mono ?_
            rintro e w6 ⟨rfl, b6⟩
            replace hs := hs.below b6
            replace hC := hC.then_ b6
            clear b6
            go_wp2_with fail
            refine (kexp_ok _ _ _ _ _ ok2 _ hs hc0 hc1 (by decide) (by omega)).mono ?_
            rintro e w7 ⟨z, c3, ok3, rfl, hs3, hc30, hc31, hE, hc⟩
            replace hC := hC.trans hc
            clear hc hs
            have hD : Hid (ok3 = false → R = none) := Lib.hid fun h9 => by
              rcases hE.out.2 h9 with h8 | h8
              · exact hI2.out.2 h8
              · cases ok2
                · exact hI2.out.2 rfl
                · obtain ⟨h6, h7⟩ := hI2.out.1 rfl
                  exact E4.out h6 (h7.trans (lapIn_none h8))
            have hMM := sm_mul (show sm t from sm_of (by omega) (by omega)) (show sm (m : Int) from sm_of (by omega) (by omega))
            have hMa : 0 ≤ t * (m : Int) := Int.mul_nonneg (by omega) (by omega)
            have hMb := hMM.2
            clear hMM
            cases z
            · have HRR : Hid (ok3 = true → R = if c3 < 1000000 then (if bitV s c3 = 0 then some (u + t * (m : Int), c3 + 1) else if 0 < u + t * (m : Int) then some (-(u + t * (m : Int)), c3 + 1) else lapT s t (199 - k) (c3 + 1)) else none) := Lib.hid fun h9 => by
                obtain ⟨h8, h7⟩ := hE.out.1 h9
                obtain ⟨h6, h5⟩ := hI2.out.1 h8
                exact E5.out h6 _ _ (h5.trans (lapIn_down h7))
              clear hE hI2 E4 E5
              go_wp2_with fail
              refine (bit_any _ _ _ _ _ hs3 hc30 hc31).mono ?_
              rintro e w8 ⟨hyes, hno, hc⟩
              replace hC := hC.trans hc
              clear hc hs3
              cases ok3
              · obtain ⟨rfl, c4, hs4, hc40, hc41⟩ := hno (if_neg (by simp))
                have E := Lib.hid (hD.out rfl)
                have c2 := box_cell hs4 2 _ rfl
                clear hyes hno
                go_wp2
                go_ret
                exact KPost.no E.out hs4 hc40 hc41 hC
              · replace HRR := Lib.hid (HRR.out rfl)
                by_cases hb4 : c3 < 1000000
                · obtain ⟨rfl, hs4⟩ := hyes _ _ (if_pos ⟨rfl, hb4⟩)
                  have c2 := box_cell hs4 2 _ rfl
                  clear hyes hno hD
                  rcases bitV_01 s c3 with hv | hv
                  · have E := Lib.hid (HRR.out.trans (lap_plus hb4 hv))
                    rw [hv]
                    clear hv
                    go_wp2
                    go_ret
                    exact KPost.yes E.out hs4 hC
                  · by_cases hm0 : 0 < u + t * (m : Int)
                    · have E := Lib.hid (HRR.out.trans (lap_minus hb4 (by omega) hm0))
                      rw [hv]
                      clear hv
                      go_wp2
                      go_ret
                      exact KPost.yes E.out hs4 hC
                    · have E := Lib.hid (HRR.out.trans (lap_more hb4 (by omega) hm0))
                      have hmd : decide (0 < u + t * (m : Int)) = false := decide_eq_false hm0
                      rw [hv]
                      clear hv
                      go_wp2
                      go_roundw
                      case rel => exact ⟨k + 1, c3 + 1, true, by omega, by go_num, Lib.hid ⟨fun _ => by rw [show 200 - (k + 1) = 199 - k by omega]; exact E.out, fun h9 => (by cases h9)⟩, hs4, by omega, by omega, hC⟩
                      case measure => simp [intOf]; omega
                · obtain ⟨rfl, c4, hs4, hc40, hc41⟩ := hno (if_neg (fun h9 => hb4 h9.2))
                  have E := Lib.hid (HRR.out.trans (lap_end hb4))
                  have c2 := box_cell hs4 2 _ rfl
                  clear hyes hno hD
                  go_wp2
                  go_ret
                  exact KPost.no E.out hs4 hc40 hc41 hC
            · have EI : Hid (ok3 = true → okk = true ∧ I = lapIn s (200 - m) (m + 1) c3) := Lib.hid fun h9 => by
                obtain ⟨h8, h7⟩ := hE.out.1 h9
                obtain ⟨h6, h5⟩ := hI2.out.1 h8
                exact ⟨h6, h5.trans (lapIn_up h7)⟩
              by_cases hm2 : m = 200
              · subst hm2
                have E : Hid (R = none) := Lib.hid (by
                  cases ok3
                  · exact hD.out rfl
                  · obtain ⟨h6, h5⟩ := EI.out rfl
                    exact E4.out h6 (h5.trans rfl))
                have f2 := box_free hs3 2
                have c2 := box_cell hs3 2 _ rfl
                have k3 : RdrAt (w7.setCell ⟨g, 2, none⟩ (.bool false)) g s c3 false := box_set hs3 2 _
                have K3 := Lib.hid (hC.set (g := g) (i := 2) (v := .bool false) (Nat.le_refl _) (by omega))
                go_wp2
                go_ret
                exact KPost.no E.out k3 hc30 hc31 K3.out
              · go_wp2
                go_roundw
                case rel => exact ⟨m + 1, c3, ok3, by omega, by go_num, Lib.hid ⟨fun h9 => by rw [show 201 - (m + 1) = 200 - m by omega]; exact EI.out h9, hD.out⟩, hs3, hc30, hc31, hC⟩
                case measure => simp [intOf]; omega
    · have E : Hid (R = none) := Lib.hid (by
        cases okj
        · exact hx.out.2 rfl
        · rw [hx.out.1 rfl, show 200 - k = 0 by omega]; rfl)
      have k3 : RdrAt (wr.setCell ⟨g, 2, none⟩ (.bool false)) g s b false := box_set hs 2 _
      have K3 := Lib.hid (hC.set (g := g) (i := 2) (v := .bool false) (Nat.le_refl _) (by omega))
      go_wp2
      go_ret
      exact KPost.no E.out k3 hb0 hb1 K3.out
end Go.Proofs.Ytfkdmddfadkjoaa
