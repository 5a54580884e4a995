/- Laplace noise: the model, and the program's. -/
import Derived.Test.YtfkdmddfadkjoaaKExp
import Derived.Test.YtfkdmddfadkjoaaGeo
namespace Go.Proofs.Ytfkdmddfadkjoaa
open Go.RowKit

/-- The number of true coins with the chance exp(-1) in a row, m being read, t tries at most. -/
def lapIn (s : Int) : Nat → Nat → Int → Option (Int × Int)
  | 0, _, _ => none
  | t + 1, m, a => match expM s 1 1 a with
    | none => none
    | some (true, b) => lapIn s t (m + 1) b
    | some (false, b) => some ((m : Int), b)
theorem lapIn_none {s a : Int} {t m : Nat} (h : expM s 1 1 a = none) : lapIn s (t + 1) m a = none := by simp only [lapIn, h]
theorem lapIn_up {s a b : Int} {t m : Nat} (h : expM s 1 1 a = some (true, b)) : lapIn s (t + 1) m a = lapIn s t (m + 1) b := by simp only [lapIn, h]
theorem lapIn_down {s a b : Int} {t m : Nat} (h : expM s 1 1 a = some (false, b)) : lapIn s (t + 1) m a = some ((m : Int), b) := by simp only [lapIn, h]
theorem lapIn_bd {s a a' v : Int} {t m : Nat} (h : lapIn s t m a = some (v, a')) (h0 : 0 ≤ a) (h1 : a ≤ 1000000) : 0 ≤ v ∧ v ≤ m + t ∧ 0 ≤ a' ∧ a' ≤ 1000000 := by
  induction t generalizing m a with
  | zero => cases h
  | succ t ih =>
    cases hc : expM s 1 1 a with
    | none => rw [lapIn_none hc] at h; cases h
    | some c =>
      obtain ⟨u, b⟩ := c
      have hb := expM_bd hc h0 h1
      cases u
      · rw [lapIn_down hc] at h
        simp only [Option.some.injEq, Prod.mk.injEq] at h
        omega
      · rw [lapIn_up hc] at h
        have := ih h hb.1 hb.2
        omega
/-- Tries for a noise. -/
def lapT (s t : Int) : Nat → Int → Option (Int × Int)
  | 0, _ => none
  | k + 1, a => match belowM s t a with
    | none => none
    | some (u, b) => match redO u t with
      | none => none
      | some (p, q) => match expM s p q b with
        | none => none
        | some (false, c) => lapT s t k c
        | some (true, c) => match lapIn s 201 0 c with
          | none => none
          | some (v, d) => if d < 1000000 then (if bitV s d = 0 then some (u + t * v, d + 1) else if 0 < u + t * v then some (-(u + t * v), d + 1) else lapT s t k (d + 1)) else none
theorem lapT_1 {s t a : Int} {k : Nat} (h : belowM s t a = none) : lapT s t (k + 1) a = none := by simp only [lapT, h]
theorem lapT_2 {s t a u b p q : Int} {k : Nat} (h : belowM s t a = some (u, b)) (hr : redO u t = some (p, q)) (h2 : expM s p q b = none) : lapT s t (k + 1) a = none := by simp only [lapT, h, hr, h2]
theorem lapT_3 {s t a u b p q c : Int} {k : Nat} (h : belowM s t a = some (u, b)) (hr : redO u t = some (p, q)) (h2 : expM s p q b = some (false, c)) : lapT s t (k + 1) a = lapT s t k c := by simp only [lapT, h, hr, h2]
theorem lapT_4 {s t a u b p q c : Int} {k : Nat} (h : belowM s t a = some (u, b)) (hr : redO u t = some (p, q)) (h2 : expM s p q b = some (true, c)) (h3 : lapIn s 201 0 c = none) : lapT s t (k + 1) a = none := by simp only [lapT, h, hr, h2, h3]
theorem lapT_5 {s t a u b p q c v d : Int} {k : Nat} (h : belowM s t a = some (u, b)) (hr : redO u t = some (p, q)) (h2 : expM s p q b = some (true, c)) (h3 : lapIn s 201 0 c = some (v, d)) : lapT s t (k + 1) a = if d < 1000000 then (if bitV s d = 0 then some (u + t * v, d + 1) else if 0 < u + t * v then some (-(u + t * v), d + 1) else lapT s t k (d + 1)) else none := by simp only [lapT, h, hr, h2, h3]
theorem lap_end {α : Type} {d : Int} {x : Prop} {y : Prop} [Decidable x] [Decidable y] {A B C : Option α} (hd : ¬ d < 1000000) : (if d < 1000000 then (if x then A else if y then B else C) else none) = none := if_neg hd
theorem lap_plus {α : Type} {d : Int} {x : Prop} {y : Prop} [Decidable x] [Decidable y] {A B C : Option α} (hd : d < 1000000) (hx : x) : (if d < 1000000 then (if x then A else if y then B else C) else none) = A := by rw [if_pos hd, if_pos hx]
theorem lap_minus {α : Type} {d : Int} {x : Prop} {y : Prop} [Decidable x] [Decidable y] {A B C : Option α} (hd : d < 1000000) (hx : ¬ x) (hy : y) : (if d < 1000000 then (if x then A else if y then B else C) else none) = B := by rw [if_pos hd, if_neg hx, if_pos hy]
theorem lap_more {α : Type} {d : Int} {x : Prop} {y : Prop} [Decidable x] [Decidable y] {A B C : Option α} (hd : d < 1000000) (hx : ¬ x) (hy : ¬ y) : (if d < 1000000 then (if x then A else if y then B else C) else none) = C := by rw [if_pos hd, if_neg hx, if_neg hy]
def lapM (s t a : Int) : Option (Int × Int) := lapT s t 200 a
/-- A number below a bound is a proper fraction. -/
theorem redO_small {u t : Int} (ht : 1 ≤ t) (ht2 : t ≤ 1000000000) (hu : 0 ≤ u) (hut : u < t) : ∃ p q, redO u t = some (p, q) ∧ 0 ≤ p ∧ sm p ∧ 1 ≤ q ∧ q ≤ 1000000000 := by
  have hg := gcd_pos (n := u) (show t ≠ 0 by omega)
  have h1 : ¬ t.tdiv (Int.gcd u t : Nat) < 0 := fun h2 => by have := (tdiv_sign (n := u) (show t ≠ 0 by omega)).1 h2; omega
  have h2 := tdiv_abs u _ hg
  have h3 := tdiv_abs t _ hg
  have h4 : 0 ≤ u.tdiv (Int.gcd u t : Nat) := Int.tdiv_nonneg hu (by omega)
  have e1 : redP u t = u.tdiv (Int.gcd u t : Nat) := if_neg h1
  have e2 : redQ u t = t.tdiv (Int.gcd u t : Nat) := if_neg h1
  have h5 := redQ_pos (n := u) (show t ≠ 0 by omega)
  rw [e2] at h5
  generalize u.tdiv (Int.gcd u t : Nat) = P at *
  generalize t.tdiv (Int.gcd u t : Nat) = Q at *
  refine ⟨P, Q, ?_, h4, sm_of (by omega) (by omega), h5, by omega⟩
  rw [redO_yes (by omega) ⟨by omega, by omega, by omega⟩, e1, e2]
theorem lapT_bd {s t a a' v : Int} {k : Nat} (ht : 1 ≤ t) (ht2 : t ≤ 1000) (h : lapT s t k a = some (v, a')) (h0 : 0 ≤ a) (h1 : a ≤ 1000000) : -1000000 ≤ v ∧ v ≤ 1000000 ∧ 0 ≤ a' ∧ a' ≤ 1000000 := by
  induction k generalizing a with
  | zero => cases h
  | succ k ih =>
    cases hb : belowM s t a with
    | none => rw [lapT_1 hb] at h; cases h
    | some r =>
      obtain ⟨u, b⟩ := r
      have hbb := belowM_bd hb h0 h1
      obtain ⟨p, q, hr, _⟩ := redO_small ht (by omega) hbb.1 hbb.2.1
      cases he : expM s p q b with
      | none => rw [lapT_2 hb hr he] at h; cases h
      | some r =>
        obtain ⟨z, c⟩ := r
        have hc := expM_bd he hbb.2.2.1 hbb.2.2.2
        cases z
        · rw [lapT_3 hb hr he] at h
          exact ih h hc.1 hc.2
        · cases hl : lapIn s 201 0 c with
          | none => rw [lapT_4 hb hr he hl] at h; cases h
          | some r =>
            obtain ⟨v2, d⟩ := r
            have hd := lapIn_bd hl hc.1 hc.2
            have hm : 0 ≤ t * v2 := Int.mul_nonneg (by omega) hd.1
            have hm2 : t * v2 ≤ 1000 * 201 := Int.mul_le_mul (by omega) (by omega) (by omega) (by omega)
            rw [lapT_5 hb hr he hl] at h
            split at h
            · split at h
              · simp only [Option.some.injEq, Prod.mk.injEq] at h; omega
              · split at h
                · simp only [Option.some.injEq, Prod.mk.injEq] at h; omega
                · exact ih h (by omega) (by omega)
            · cases h
theorem lapM_bd {s t a a' v : Int} (ht : 1 ≤ t) (ht2 : t ≤ 1000) (h : lapM s t a = some (v, a')) (h0 : 0 ≤ a) (h1 : a ≤ 1000000) : -1000000 ≤ v ∧ v ≤ 1000000 ∧ 0 ≤ a' ∧ a' ≤ 1000000 := lapT_bd ht ht2 h h0 h1

set_option maxRecDepth 100000 in
set_option maxHeartbeats 8000000 in
theorem laplace_any (g : Nat) (s a t : Int) (w : World) (h : StrAt w g s a) (h0 : 0 ≤ a) (h1 : a ≤ 1000000) (ht : 1 ≤ t) (ht2 : t ≤ 1000) :
    Calls Try.prog 136 #[.pointer (some ⟨g, 0, none⟩), .int .i64 t] w (SPost (Value.int .i64) g s (lapM s t a) w) := by
  have hlt := h.lt
  have HR := Lib.hid (show lapM s t a = lapT s t 200 a from rfl)
  generalize lapM s t a = R at *
  go_enter Try.func136, Try.ntmps136
  go_wp2_with fail
  go_loopw [13] (fun i wr => ∃ (k : Nat) (b : Int), k ≤ 200 ∧ i = .int .i64 k ∧ Hid (R = lapT s t (200 - k) b) ∧ StrAt wr g s b ∧ 0 ≤ b ∧ b ≤ 1000000 ∧ Chg g (g + 1) w wr) (fun i _ => 200 - (intOf i).toNat)
  case atStart => exact ⟨0, a, by omega, rfl, HR, h, h0, h1, Chg.refl _ _ _⟩
  case round =>
    clear h
    obtain ⟨k, b, hk, rfl, hx, hs, hb0, hb1, hC⟩ := hrel
    by_cases hlt2 : k < 200
    · have hs200 : 200 - k = (199 - k) + 1 := by omega
      rw [hs200] at hx
      clear hs200
      have hkd : decide ((k : Int) < 200) = true := decide_eq_true (by omega)
      go_wp2_with fail
      refine (below_any _ _ _ _ _ hs hb0 hb1 ht (by omega)).mono ?_
      rintro e w2 ⟨hyes, hno, hc⟩
      replace hC := hC.trans hc
      clear hc hs
      cases hM : belowM s t b with
      | none =>
        obtain ⟨z, b2, rfl, hs2⟩ := hno hM
        have E := Lib.hid (hx.out.trans (lapT_1 hM))
        clear hyes hno hM
        go_wp2
        go_ret2
        exact SPost.no E.out hs2 hC
      | some r =>
        obtain ⟨u, b2⟩ := r
        obtain ⟨rfl, hs2⟩ := hyes u b2 hM
        have hb := belowM_bd hM hb0 hb1
        have hu0 := hb.1
        have hu1 := hb.2.1
        have hb20 := hb.2.2.1
        have hb21 := hb.2.2.2
        have HM := Lib.hid hM
        clear hyes hno hM hb hb0 hb1
        obtain ⟨p, q, hr, hp0, hps, hq0, hq1⟩ := redO_small ht (by omega) hu0 hu1
        have Hr := Lib.hid hr
        clear hr
        go_wp2_with fail
        refine (reduced_any _ _ _ (by omega) (by omega) (by omega) (by omega) (by omega)).mono ?_
        rintro e w3 ⟨rfl, b3⟩
        rw [Hr.out]
        simp only [fN, fD, fB]
        replace hs2 := hs2.below b3
        replace hC := hC.then_ b3
        clear b3
        go_wp2_with fail
        have b4 := below_new w3 (.cells #[.int .i64 p, .int .i64 q] 28)
        replace hs2 := hs2.below b4
        replace hC := hC.then_ b4
        clear b4
        generalize w3.alloc (.cells #[.int .i64 p, .int .i64 q] 28) = w4 at *
        refine (expCoin_any _ _ _ _ _ _ hs2 hb20 hb21 hps hp0 hq0 hq1).mono ?_
        rintro e w5 ⟨hyes, hno, hc⟩
        replace hC := hC.trans hc
        clear hc hs2
        cases hE : expM s p q b2 with
        | none =>
          obtain ⟨z, b3, rfl, hs3⟩ := hno hE
          have E := Lib.hid (hx.out.trans (lapT_2 HM.out Hr.out hE))
          clear hyes hno hE
          go_wp2
          go_ret2
          exact SPost.no E.out hs3 hC
        | some r =>
          obtain ⟨z, b3⟩ := r
          obtain ⟨rfl, hs3⟩ := hyes z b3 hE
          have hb := expM_bd hE hb20 hb21
          have hb30 := hb.1
          have hb31 := hb.2
          have HE := Lib.hid hE
          clear hyes hno hE hb hb20 hb21
          cases z
          · have E := Lib.hid (hx.out.trans (lapT_3 HM.out Hr.out HE.out))
            go_wp2
            go_roundw
            case rel => exact ⟨k + 1, b3, by omega, by go_num, by rw [show 200 - (k + 1) = 199 - k by omega]; exact E, hs3, hb30, hb31, hC⟩
            case measure => simp [intOf]; omega
          · obtain ⟨I, hI⟩ : ∃ I, lapIn s 201 0 b3 = I := ⟨_, rfl⟩
            have E4 : Hid (I = none → R = none) := Lib.hid fun h9 => hx.out.trans (lapT_4 HM.out Hr.out HE.out (hI.trans h9))
            have E5 : Hid (∀ v d, I = some (v, d) → 0 ≤ v ∧ v ≤ 201 ∧ R = if d < 1000000 then (if bitV s d = 0 then some (u + t * v, d + 1) else if 0 < u + t * v then some (-(u + t * v), d + 1) else lapT s t (199 - k) (d + 1)) else none) := Lib.hid fun v d h9 => by
              have hl := hI.trans h9
              have hd := lapIn_bd hl hb30 hb31
              exact ⟨hd.1, by omega, hx.out.trans (lapT_5 HM.out Hr.out HE.out hl)⟩
            have hI2 := Lib.hid hI.symm
            clear hI HE Hr HM hx
            go_wp2
            clear hkd
            go_loopw [10] (fun v w2 => ∃ (m : Nat) (c : Int), m ≤ 200 ∧ v = .int .i64 m ∧ Hid (I = lapIn s (201 - m) m c) ∧ StrAt w2 g s c ∧ 0 ≤ c ∧ c ≤ 1000000 ∧ Chg g (g + 1) w w2) (fun v _ => 201 - (intOf v).toNat)
            case atStart => exact ⟨0, b3, by omega, rfl, hI2, hs3, hb30, hb31, hC⟩
            case round =>
              clear hs3 hC hb30 hb31 hI2
              obtain ⟨m, c, hm, rfl, hI2, hs, hc0, hc1, hC⟩ := hrel
              have hs200 : 201 - m = (200 - m) + 1 := by omega
              rw [hs200] at hI2
              clear hs200
              go_wp2_with fail
              refine (expCoin_any _ _ _ _ _ _ hs hc0 hc1 sm_one (by omega) (by omega) (by omega)).mono ?_
              rintro e w6 ⟨hyes, hno, hc⟩
              replace hC := hC.trans hc
              clear hc hs
              cases hM : expM s 1 1 c with
              | none =>
                obtain ⟨z, c2, rfl, hs2⟩ := hno hM
                have E := Lib.hid (E4.out (hI2.out.trans (lapIn_none hM)))
                clear hyes hno hM
                go_wp2
                go_ret2
                exact SPost.no E.out hs2 hC
              | some r =>
                obtain ⟨z, c2⟩ := r
                obtain ⟨rfl, hs2⟩ := hyes z c2 hM
                have hb := expM_bd hM hc0 hc1
                have hc20 := hb.1
                have hc21 := hb.2
                have HM := Lib.hid hM
                clear hyes hno hM hb hc0 hc1
                cases z
                · obtain ⟨hm0, hm1, hRR⟩ := E5.out _ _ (hI2.out.trans (lapIn_down HM.out))
                  have HRR := Lib.hid hRR
                  have hMM := sm_mul (show sm t from sm_of (by omega) (by omega)) (show sm (m : Int) from sm_of (by omega) (by omega))
                  have hMa : 0 ≤ t * (m : Int) := Int.mul_nonneg (by omega) (by omega)
                  have hMb := hMM.2
                  clear HM hI2 hRR E4 E5 hMM hm0 hm1
                  by_cases hb4 : c2 < 1000000
                  · go_wp2_with fail
                    refine (next_ok _ _ _ _ hs2 hc20 hb4).mono ?_
                    rintro e w7 ⟨rfl, hs3, hc⟩
                    replace hC := hC.trans hc
                    clear hc hs2
                    rcases bitV_01 s c2 with hv | hv
                    · have E := Lib.hid (HRR.out.trans (lap_plus hb4 hv))
                      rw [hv]
                      clear hv
                      go_wp2
                      go_ret2
                      exact SPost.yes E.out hs3 hC
                    · by_cases hm0 : 0 < u + t * (m : Int)
                      · have E := Lib.hid (HRR.out.trans (lap_minus hb4 (by omega) hm0))
                        have hne : (u + t * (m : Int) != 0) = true := by rw [bne_iff_ne]; omega
                        rw [hv]
                        clear hv
                        go_wp2
                        go_ret2
                        exact SPost.yes E.out hs3 hC
                      · have E := Lib.hid (HRR.out.trans (lap_more hb4 (by omega) hm0))
                        have hne : (u + t * (m : Int) != 0) = false := by rw [bne_eq_false_iff_eq]; omega
                        rw [hv]
                        clear hv
                        go_wp2
                        go_roundw
                        case rel => exact ⟨k + 1, c2 + 1, by omega, by go_num, by rw [show 200 - (k + 1) = 199 - k by omega]; exact E, hs3, by omega, by omega, hC⟩
                        case measure => simp [intOf]; omega
                  · have E := Lib.hid (HRR.out.trans (lap_end hb4))
                    go_wp2_with fail
                    refine (next_no _ _ _ _ hs2 (by omega)).mono ?_
                    rintro e w7 ⟨rfl, rfl⟩
                    go_wp2
                    go_ret2
                    exact SPost.no E.out hs2 hC
                · have EI := Lib.hid (hI2.out.trans (lapIn_up HM.out))
                  by_cases hm2 : m = 200
                  · subst hm2
                    have E := Lib.hid (E4.out (EI.out.trans rfl))
                    go_wp2
                    go_ret2
                    exact SPost.no E.out hs2 hC
                  · go_wp2
                    go_roundw
                    case rel => exact ⟨m + 1, c2, by omega, by go_num, by rw [show 201 - (m + 1) = 200 - m by omega]; exact EI, hs2, hc20, hc21, hC⟩
                    case measure => simp [intOf]; omega
    · have E : Hid (R = none) := Lib.hid (by rw [hx.out, show 200 - k = 0 by omega]; rfl)
      go_wp2
      go_ret2
      exact SPost.no E.out hs hC
end Go.Proofs.Ytfkdmddfadkjoaa
