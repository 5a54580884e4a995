/- Geometric noise: the model, and the program's. -/
import Derived.Test.YtfkdmddfadkjoaaKCoin
namespace Go.Proofs.Ytfkdmddfadkjoaa
open Go.RowKit

/-- The number of true coins in a row, m being read, t tries at most. -/
def geoIn (s p q : Int) : Nat → Nat → Int → Option (Int × Int)
  | 0, _, _ => none
  | t + 1, m, a => match coinM s p q a with
    | none => none
    | some (true, b) => geoIn s p q t (m + 1) b
    | some (false, b) => some ((m : Int), b)
theorem geoIn_none {s p q a : Int} {t m : Nat} (h : coinM s p q a = none) : geoIn s p q (t + 1) m a = none := by simp only [geoIn, h]
theorem geoIn_up {s p q a b : Int} {t m : Nat} (h : coinM s p q a = some (true, b)) : geoIn s p q (t + 1) m a = geoIn s p q t (m + 1) b := by simp only [geoIn, h]
theorem geoIn_down {s p q a b : Int} {t m : Nat} (h : coinM s p q a = some (false, b)) : geoIn s p q (t + 1) m a = some ((m : Int), b) := by simp only [geoIn, h]
theorem geoIn_bd {s p q a a' v : Int} {t m : Nat} (h : geoIn s p q t m a = some (v, a')) (h0 : 0 ≤ a) (h1 : a ≤ 1000000) : 0 ≤ v ∧ v ≤ m + t ∧ 0 ≤ a' ∧ a' ≤ 1000000 := by
  induction t generalizing m a with
  | zero => cases h
  | succ t ih =>
    cases hc : coinM s p q a with
    | none => rw [geoIn_none hc] at h; cases h
    | some c =>
      obtain ⟨u, b⟩ := c
      have hb := coinM_bd hc h0 h1
      cases u
      · rw [geoIn_down hc] at h
        simp only [Option.some.injEq, Prod.mk.injEq] at h
        omega
      · rw [geoIn_up hc] at h
        have := ih h hb.1 hb.2
        omega
/-- Tries for a noise. -/
def geoT (s p q : Int) : Nat → Int → Option (Int × Int)
  | 0, _ => none
  | t + 1, a => match geoIn s p q 201 0 a with
    | none => none
    | some (m, b) => if b < 1000000 then (if bitV s b = 0 then some (m, b + 1) else if 0 < m then some (-m, b + 1) else geoT s p q t (b + 1)) else none
theorem geoT_none {s p q a : Int} {t : Nat} (h : geoIn s p q 201 0 a = none) : geoT s p q (t + 1) a = none := by simp only [geoT, h]
theorem geoT_end {s p q a m b : Int} {t : Nat} (h : geoIn s p q 201 0 a = some (m, b)) (hb : ¬ b < 1000000) : geoT s p q (t + 1) a = none := by simp only [geoT, h]; rw [if_neg hb]
theorem geoT_plus {s p q a m b : Int} {t : Nat} (h : geoIn s p q 201 0 a = some (m, b)) (hb : b < 1000000) (hv : bitV s b = 0) : geoT s p q (t + 1) a = some (m, b + 1) := by simp only [geoT, h]; rw [if_pos hb, if_pos hv]
theorem geoT_minus {s p q a m b : Int} {t : Nat} (h : geoIn s p q 201 0 a = some (m, b)) (hb : b < 1000000) (hv : ¬ bitV s b = 0) (hm : 0 < m) : geoT s p q (t + 1) a = some (-m, b + 1) := by simp only [geoT, h]; rw [if_pos hb, if_neg hv, if_pos hm]
theorem geoT_more {s p q a m b : Int} {t : Nat} (h : geoIn s p q 201 0 a = some (m, b)) (hb : b < 1000000) (hv : ¬ bitV s b = 0) (hm : ¬ 0 < m) : geoT s p q (t + 1) a = geoT s p q t (b + 1) := by simp only [geoT, h]; rw [if_pos hb, if_neg hv, if_neg hm]
def geoM (s p q a : Int) : Option (Int × Int) := geoT s p q 200 a
theorem geoT_bd {s p q a a' v : Int} {t : Nat} (h : geoT s p q t a = some (v, a')) (h0 : 0 ≤ a) (h1 : a ≤ 1000000) : -201 ≤ v ∧ v ≤ 201 ∧ 0 ≤ a' ∧ a' ≤ 1000000 := by
  induction t generalizing a with
  | zero => cases h
  | succ t ih =>
    cases hc : geoIn s p q 201 0 a with
    | none => rw [geoT_none hc] at h; cases h
    | some c =>
      obtain ⟨m, b⟩ := c
      have hb := geoIn_bd hc h0 h1
      by_cases h2 : b < 1000000
      · by_cases h3 : bitV s b = 0
        · rw [geoT_plus hc h2 h3] at h
          simp only [Option.some.injEq, Prod.mk.injEq] at h
          omega
        · by_cases h4 : 0 < m
          · rw [geoT_minus hc h2 h3 h4] at h
            simp only [Option.some.injEq, Prod.mk.injEq] at h
            omega
          · rw [geoT_more hc h2 h3 h4] at h
            exact ih h (by omega) (by omega)
      · rw [geoT_end hc h2] at h; cases h
theorem geoM_bd {s p q a a' v : Int} (h : geoM s p q a = some (v, a')) (h0 : 0 ≤ a) (h1 : a ≤ 1000000) : -201 ≤ v ∧ v ≤ 201 ∧ 0 ≤ a' ∧ a' ≤ 1000000 := geoT_bd h h0 h1
theorem bitV_01 (s b : Int) : bitV s b = 0 ∨ bitV s b = 1 := by
  have := bitV_bd s b
  omega

set_option maxRecDepth 100000 in
set_option maxHeartbeats 4000000 in
theorem geoNoise_any (g : Nat) (s a p q : Int) (w : World) (h : StrAt w g s a) (h0 : 0 ≤ a) (h1 : a ≤ 1000000) (hq : 1 ≤ q) (hq2 : q ≤ 1000000000) :
    Calls Try.prog 86 #[.pointer (some ⟨g, 0, none⟩), .agg #[.int .i64 p, .int .i64 q]] w (SPost (Value.int .i64) g s (geoM s p q a) w) := by
  have hlt := h.lt
  have HR := Lib.hid (show geoM s p q a = geoT s p q 200 a from rfl)
  generalize geoM s p q a = R at *
  have x0 := box_new w #[.int .i64 p, .int .i64 q] 28
  have b0 := below_new w (.cells #[.int .i64 p, .int .i64 q] 28)
  have hC := (Chg.refl g (g + 1) w).alloc (.cells #[.int .i64 p, .int .i64 q] 28)
  replace h := h.below b0
  go_enter Try.func86, Try.ntmps86
  go_wp2_with fail
  generalize w.alloc (.cells #[.int .i64 p, .int .i64 q] 28) = w0 at *
  go_loopw [11] (fun i wr => ∃ (k : Nat) (b : Int), k ≤ 200 ∧ i = .int .i64 k ∧ Hid (R = geoT s p q (200 - k) b) ∧ StrAt wr g s b ∧ 0 ≤ b ∧ b ≤ 1000000 ∧ wr.heap[w.heap.size]? = some (.cells #[.int .i64 p, .int .i64 q] 28 (0, 0)) ∧ Chg g (g + 1) w wr) (fun i _ => 200 - (intOf i).toNat)
  case atStart => exact ⟨0, a, by omega, rfl, HR, h, h0, h1, x0, hC⟩
  case round =>
    clear h x0 hC b0
    obtain ⟨k, b, hk, rfl, hx, hs, hb0, hb1, x0, hC⟩ := hrel
    by_cases hlt2 : k < 200
    · have hs200 : 200 - k = (199 - k) + 1 := by omega
      rw [hs200] at hx
      clear hs200
      obtain ⟨I, hI⟩ : ∃ I, geoIn s p q 201 0 b = I := ⟨_, rfl⟩
      have HI := Lib.hid hI
      have hI2 := Lib.hid hI.symm
      clear hI
      have hkd : decide ((k : Int) < 200) = true := decide_eq_true (by omega)
      go_wp2
      clear hkd
      go_loopw [6] (fun u w2 => ∃ (m : Nat) (b2 : Int), m ≤ 200 ∧ u = .int .i64 m ∧ Hid (I = geoIn s p q (201 - m) m b2) ∧ StrAt w2 g s b2 ∧ 0 ≤ b2 ∧ b2 ≤ 1000000 ∧ w2.heap[w.heap.size]? = some (.cells #[.int .i64 p, .int .i64 q] 28 (0, 0)) ∧ Chg g (g + 1) w w2) (fun u _ => 201 - (intOf u).toNat)
      case atStart => exact ⟨0, b, by omega, rfl, hI2, hs, hb0, hb1, x0, hC⟩
      case round =>
        clear hs x0 hC hb0 hb1 hI2
        obtain ⟨m, b2, hm, rfl, hI2, hs, hb0, hb1, x0, hC⟩ := hrel
        have hwg := lt_of_block x0
        have c0 := box_cell x0 0 _ rfl
        have c1 := box_cell x0 1 _ rfl
        have hs200 : 201 - m = (200 - m) + 1 := by omega
        rw [hs200] at hI2
        clear hs200
        go_wp2_with fail
        refine (coin_any _ _ _ _ _ _ hs hb0 hb1 hq hq2).mono ?_
        rintro e w4 ⟨hyes, hno, hc⟩
        replace x0 := box_chg x0 hc (.inr (by omega))
        replace hC := hC.trans hc
        clear hc hs c0 c1
        cases hM : coinM s p q b2 with
        | none =>
          obtain ⟨z, b3, rfl, hs2⟩ := hno hM
          have E := Lib.hid (hx.out.trans (geoT_none (HI.out.trans (hI2.out.trans (geoIn_none hM)))))
          clear hyes hno hM
          go_wp2
          go_ret2
          exact SPost.no E.out hs2 hC
        | some r =>
          obtain ⟨u, b3⟩ := r
          obtain ⟨rfl, hs2⟩ := hyes u b3 hM
          have hb := coinM_bd hM hb0 hb1
          have hb20 := hb.1
          have hb21 := hb.2
          have HM := Lib.hid hM
          clear hyes hno hM hb
          cases u
          · have EI := Lib.hid (HI.out.trans (hI2.out.trans (geoIn_down HM.out)))
            clear HM hI2
            by_cases hb4 : b3 < 1000000
            · go_wp2_with fail
              refine (next_ok _ _ _ _ hs2 hb20 hb4).mono ?_
              rintro e w5 ⟨rfl, hs3, hc⟩
              replace x0 := box_chg x0 hc (.inr (by omega))
              replace hC := hC.trans hc
              clear hc hs2
              rcases bitV_01 s b3 with hv | hv
              · have E := Lib.hid (hx.out.trans (geoT_plus EI.out hb4 hv))
                rw [hv]
                clear hv
                go_wp2
                go_ret2
                exact SPost.yes E.out hs3 hC
              · by_cases hm0 : 0 < m
                · have E := Lib.hid (hx.out.trans (geoT_minus EI.out hb4 (by omega) (by omega)))
                  rw [hv]
                  clear hv
                  go_wp2
                  go_ret2
                  exact SPost.yes E.out hs3 hC
                · have E := Lib.hid (hx.out.trans (geoT_more EI.out hb4 (by omega) (by omega)))
                  obtain rfl : m = 0 := by omega
                  rw [hv]
                  clear hv
                  go_wp2
                  go_roundw
                  case rel => exact ⟨k + 1, b3 + 1, by omega, by go_num, by rw [show 200 - (k + 1) = 199 - k by omega]; exact E, hs3, by omega, by omega, x0, hC⟩
                  case measure => simp [intOf]; omega
            · have E := Lib.hid (hx.out.trans (geoT_end EI.out hb4))
              go_wp2_with fail
              refine (next_no _ _ _ _ hs2 (by omega)).mono ?_
              rintro e w5 ⟨rfl, rfl⟩
              go_wp2
              go_ret2
              exact SPost.no E.out hs2 hC
          · have EI := Lib.hid (hI2.out.trans (geoIn_up HM.out))
            by_cases hm2 : m = 200
            · subst hm2
              have E := Lib.hid (hx.out.trans (geoT_none (HI.out.trans (EI.out.trans rfl))))
              go_wp2
              go_ret2
              exact SPost.no E.out hs2 hC
            · go_wp2
              go_roundw
              case rel => exact ⟨m + 1, b3, by omega, by go_num, by rw [show 201 - (m + 1) = 200 - m by omega]; exact EI, hs2, hb20, hb21, x0, hC⟩
              case measure => simp [intOf]; omega
    · have E : Hid (R = none) := Lib.hid (by rw [hx.out, show 200 - k = 0 by omega]; rfl)
      go_wp2
      go_ret2
      exact SPost.no E.out hs hC
end Go.Proofs.Ytfkdmddfadkjoaa
