/- Geometric noise: the reference's. -/
import Derived.Test.YtfkdmddfadkjoaaGeo
namespace Go.Proofs.Ytfkdmddfadkjoaa
open Go.RowKit

set_option maxRecDepth 100000 in
set_option maxHeartbeats 4000000 in
theorem kgeo_any (g : Nat) (s a p q : Int) (ok : Bool) (w : World) (h : RdrAt w g s a ok) (h0 : 0 ≤ a) (h1 : a ≤ 1000000) (hq : 1 ≤ q) (hq2 : q ≤ 1000000000) :
    Calls Try.prog 80 #[.pointer (some ⟨g, 0, none⟩), .agg #[.int .i64 p, .int .i64 q]] w (KPost (Value.int .i64) (.int .i64 0) g s (if ok = true then geoM s p q a else none) w) := by
  have hlt := h.lt
  have HR := Lib.hid (show (if ok = true then geoM s p q a else none) = (if ok = true then geoT s p q 200 a else none) from rfl)
  generalize (if ok = true then geoM s p q a else none) = R at *
  have x0 := box_new w #[.int .i64 p, .int .i64 q] 28
  have b0 := below_new w (.cells #[.int .i64 p, .int .i64 q] 28)
  have hC := (Chg.refl g (g + 1) w).alloc (.cells #[.int .i64 p, .int .i64 q] 28)
  replace h := h.below b0
  go_enter Try.func80, Try.ntmps80
  go_wp2_with fail
  generalize w.alloc (.cells #[.int .i64 p, .int .i64 q] 28) = w0 at *
  go_loopw [5] (fun i wr => ∃ (k : Nat) (b : Int) (okj : Bool), k ≤ 200 ∧ i = .int .i64 k ∧ Hid (R = (if okj = true then geoT s p q (200 - k) b else none)) ∧ RdrAt wr g s b okj ∧ 0 ≤ b ∧ b ≤ 1000000 ∧ wr.heap[w.heap.size]? = some (.cells #[.int .i64 p, .int .i64 q] 28 (0, 0)) ∧ Chg g (g + 1) w wr) (fun i _ => 200 - (intOf i).toNat)
  case atStart => exact ⟨0, a, ok, by omega, rfl, HR, h, h0, h1, x0, hC⟩
  case round =>
    clear h x0 hC b0
    obtain ⟨k, b, okj, hk, rfl, hx, hs, hb0, hb1, x0, hC⟩ := hrel
    by_cases hlt2 : k < 200
    · have hs200 : 200 - k = (199 - k) + 1 := by omega
      rw [hs200] at hx
      clear hs200
      obtain ⟨I, hI⟩ : ∃ I, (if okj = true then geoIn s p q 201 0 b else none) = I := ⟨_, rfl⟩
      have HX0 : Hid (I = none → R = none) := Lib.hid fun h9 => by
        rw [hx.out]; rw [← hI] at h9
        cases okj
        · rfl
        · rw [if_pos rfl] at h9 ⊢; exact geoT_none h9
      have HX1 : Hid (∀ v c, I = some (v, c) → geoIn s p q 201 0 b = some (v, c) ∧ R = geoT s p q (199 - k + 1) b) := Lib.hid fun v c h9 => by
        rw [← hI] at h9
        cases okj
        · cases h9
        · rw [if_pos rfl] at h9; exact ⟨h9, hx.out⟩
      have hI2 := Lib.hid hI.symm
      clear hI
      have hkd : decide ((k : Int) < 200) = true := decide_eq_true (by omega)
      go_wp2
      clear hkd
      go_loopw [6] (fun u w2 => ∃ (m : Nat) (b2 : Int) (ok2 : Bool), m ≤ 200 ∧ u = .int .i64 m ∧ Hid (I = (if ok2 = true then geoIn s p q (201 - m) m b2 else none)) ∧ RdrAt w2 g s b2 ok2 ∧ 0 ≤ b2 ∧ b2 ≤ 1000000 ∧ w2.heap[w.heap.size]? = some (.cells #[.int .i64 p, .int .i64 q] 28 (0, 0)) ∧ Chg g (g + 1) w w2) (fun u _ => 201 - (intOf u).toNat)
      case atStart => exact ⟨0, b, okj, by omega, rfl, hI2, hs, hb0, hb1, x0, hC⟩
      case round =>
        clear hs x0 hC hb0 hb1 hI2 hx
        obtain ⟨m, b2, ok2, hm, rfl, hI2, hs, hb0, hb1, x0, hC⟩ := hrel
        have hwg := lt_of_block x0
        have c0 := box_cell x0 0 _ rfl
        have c1 := box_cell x0 1 _ rfl
        have hs200 : 201 - m = (200 - m) + 1 := by omega
        rw [hs200] at hI2
        clear hs200
        go_wp2_with fail
        refine (kcoin_any _ _ _ _ _ ok2 _ hs hb0 hb1 hq hq2).mono ?_
        rintro e w4 ⟨hyes, hno, hc⟩
        replace x0 := box_chg x0 hc (.inr (by omega))
        replace hC := hC.trans hc
        clear hc hs c0 c1
        cases hM : (if ok2 = true then coinM s p q b2 else none) with
        | none =>
          obtain ⟨rfl, b3, hs2, hb20, hb21⟩ := hno hM
          have E : Hid (R = none) := Lib.hid (HX0.out (by
            rw [hI2.out]
            cases ok2
            · rfl
            · rw [if_pos rfl] at hM ⊢; exact geoIn_none hM))
          clear hyes hno hM HX0 HX1 hI2
          go_wp2_with fail
          refine (bit_any _ _ _ _ _ hs2 hb20 hb21).mono ?_
          rintro e w5 ⟨_, hno, hc⟩
          obtain ⟨rfl, b4, hs3, hb40, hb41⟩ := hno (if_neg (by simp))
          replace hC := hC.trans hc
          clear hc hs2 hno
          have c2 := box_cell hs3 2 _ rfl
          go_wp2
          go_ret
          exact KPost.no E.out hs3 hb40 hb41 hC
        | some r =>
          obtain ⟨u, b3⟩ := r
          obtain ⟨rfl, hs2⟩ := hyes u b3 hM
          have hok : ok2 = true := by
            cases ok2
            · cases hM
            · rfl
          subst hok
          rw [if_pos rfl] at hM hI2
          have hb := coinM_bd hM hb0 hb1
          have hb20 := hb.1
          have hb21 := hb.2
          have HM := Lib.hid hM
          clear hyes hno hM hb
          cases u
          · have EI := HX1.out _ _ (hI2.out.trans (geoIn_down HM.out))
            have EI1 := Lib.hid EI.1
            have EI2 := Lib.hid EI.2
            clear HM hI2 EI HX0 HX1
            go_wp2_with fail
            refine (bit_any _ _ _ _ _ hs2 hb20 hb21).mono ?_
            rintro e w5 ⟨hyes, hno, hc⟩
            replace x0 := box_chg x0 hc (.inr (by omega))
            replace hC := hC.trans hc
            clear hc hs2
            by_cases hb4 : b3 < 1000000
            · obtain ⟨rfl, hs3⟩ := hyes _ _ (if_pos ⟨rfl, hb4⟩)
              have c2 := box_cell hs3 2 _ rfl
              clear hyes hno
              rcases bitV_01 s b3 with hv | hv
              · have E := Lib.hid (EI2.out.trans (geoT_plus EI1.out hb4 hv))
                rw [hv]
                clear hv
                go_wp2
                go_ret
                exact KPost.yes E.out hs3 hC
              · by_cases hm0 : 0 < m
                · have E := Lib.hid (EI2.out.trans (geoT_minus EI1.out hb4 (by omega) (by omega)))
                  rw [hv]
                  clear hv
                  go_wp2
                  go_ret
                  exact KPost.yes E.out hs3 hC
                · have E := Lib.hid (EI2.out.trans (geoT_more EI1.out hb4 (by omega) (by omega)))
                  obtain rfl : m = 0 := by omega
                  rw [hv]
                  clear hv
                  go_wp2
                  go_roundw
                  case rel => exact ⟨k + 1, b3 + 1, true, by omega, by go_num, by rw [if_pos rfl, show 200 - (k + 1) = 199 - k by omega]; exact E, hs3, by omega, by omega, x0, hC⟩
                  case measure => simp [intOf]; omega
            · obtain ⟨rfl, b4, hs3, hb40, hb41⟩ := hno (if_neg (fun h9 => hb4 h9.2))
              have E := Lib.hid (EI2.out.trans (geoT_end EI1.out hb4))
              have c2 := box_cell hs3 2 _ rfl
              clear hyes hno
              go_wp2
              go_ret
              exact KPost.no E.out hs3 hb40 hb41 hC
          · have EI := Lib.hid (hI2.out.trans (geoIn_up HM.out))
            by_cases hm2 : m = 200
            · subst hm2
              have E := Lib.hid (HX0.out (EI.out.trans rfl))
              have c2 := box_cell hs2 2 _ rfl
              have f2 := box_free hs2 2
              have k3 : RdrAt (w4.setCell ⟨g, 2, none⟩ (.bool false)) g s b3 false := box_set hs2 2 _
              have K3 := Lib.hid (hC.set (g := g) (i := 2) (v := .bool false) (Nat.le_refl _) (by omega))
              go_wp2
              go_ret
              exact KPost.no E.out k3 hb20 hb21 K3.out
            · go_wp2
              go_roundw
              case rel => exact ⟨m + 1, b3, true, by omega, by go_num, by rw [if_pos rfl, show 201 - (m + 1) = 200 - m by omega]; exact EI, hs2, hb20, hb21, x0, hC⟩
              case measure => simp [intOf]; omega
    · have E : Hid (R = none) := Lib.hid (by
        rw [hx.out]
        cases okj
        · rfl
        · rw [if_pos rfl, show 200 - k = 0 by omega]; rfl)
      have c2 := box_cell hs 2 _ rfl
      have f2 := box_free hs 2
      have k3 : RdrAt (wr.setCell ⟨g, 2, none⟩ (.bool false)) g s b false := box_set hs 2 _
      have K3 := Lib.hid (hC.set (g := g) (i := 2) (v := .bool false) (Nat.le_refl _) (by omega))
      go_wp2
      go_ret
      exact KPost.no E.out k3 hb0 hb1 K3.out
end Go.Proofs.Ytfkdmddfadkjoaa
