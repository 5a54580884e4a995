/- The exponent of the coin that accepts Gaussian noise: the plain law. -/
import Derived.Test.YtfkdmddfadkjoaaKScale
namespace Go.Proofs.Ytfkdmddfadkjoaa
open Go.RowKit

/-- The square's quotient by twice the variance. -/
def accO (y p q m n : Int) : Option (Int × Int) :=
  match subO (absI y) 1 m n with
  | none => none
  | some (u, v) => match mulO u v u v with
    | none => none
    | some (a, b) => redO (a * q) (b * (2 * p))
/-- The exponent for y under the variance p/q. -/
def accM (p q y : Int) : Option (Int × Int) :=
  match divO p q (scaleM p q : Nat) 1 with
  | none => none
  | some (m, n) => accO y p q m n
theorem accM_1 {p q y : Int} (h : divO p q (scaleM p q : Nat) 1 = none) : accM p q y = none := by simp only [accM, h]
theorem accM_2 {p q y m n : Int} (h : divO p q (scaleM p q : Nat) 1 = some (m, n)) (h2 : subO (absI y) 1 m n = none) : accM p q y = none := by simp only [accM, h, accO, h2]
theorem accM_3 {p q y m n u v : Int} (h : divO p q (scaleM p q : Nat) 1 = some (m, n)) (h2 : subO (absI y) 1 m n = some (u, v)) (h3 : mulO u v u v = none) : accM p q y = none := by simp only [accM, h, accO, h2, h3]
theorem accM_4 {p q y m n u v a b : Int} (h : divO p q (scaleM p q : Nat) 1 = some (m, n)) (h2 : subO (absI y) 1 m n = some (u, v)) (h3 : mulO u v u v = some (a, b)) : accM p q y = redO (a * q) (b * (2 * p)) := by simp only [accM, h, accO, h2, h3]

theorem sign_of {e x y : Int} (h : e * x = y) (hx : 0 < x) (hy : 0 ≤ y) : 0 ≤ e := by
  rcases Int.lt_or_le e 0 with h1 | h1
  · have := Int.mul_neg_of_neg_of_pos h1 hx
    omega
  · exact h1
theorem sq_nonneg (u : Int) : 0 ≤ u * u := by
  rcases Int.le_total 0 u with h | h
  · exact Int.mul_nonneg h h
  · exact Int.mul_nonneg_of_nonpos_of_nonpos h h
/-- A square's numerator is not negative. -/
theorem mulO_sq {u v a b : Int} (h : mulO u v u v = some (a, b)) (hv : 1 ≤ v) : 0 ≤ a ∧ a ≤ 1000000000 ∧ 1 ≤ b ∧ b ≤ 1000000000 := by
  have hf := fracB_of (redO_frac h)
  have hr := redO_ratio h
  refine ⟨sign_of hr (Int.mul_pos (by omega) (by omega)) (Int.mul_nonneg (sq_nonneg u) (by omega)), hf.2.2.2.1, hf.1, hf.2.1⟩
/-- The quotient's numerator is not negative. -/
theorem quo_sign {a b p q e f : Int} (h : redO (a * q) (b * (2 * p)) = some (e, f)) (ha : 0 ≤ a) (hq : 1 ≤ q) (hb : 1 ≤ b) (hp : 1 ≤ p) : 0 ≤ e := by
  have hf := fracB_of (redO_frac h)
  exact sign_of (redO_ratio h) (Int.mul_pos (by omega) (by omega)) (Int.mul_nonneg (Int.mul_nonneg ha (by omega)) (by omega))
/-- The program's way to the quotient. -/
theorem quo_way {a b p q : Int} (hp : 1 ≤ p) (hb : 1 ≤ b) (hq : 1 ≤ q) :
    redO (a.tdiv (Int.gcd a p : Nat) * q.tdiv (Int.gcd b q : Nat)) (2 * b.tdiv (Int.gcd b q : Nat) * p.tdiv (Int.gcd a p : Nat)) = redO (a * q) (b * (2 * p)) := by
  have h1 : ((Int.gcd a p : Nat) : Int) ∣ a := Int.gcd_dvd_left ..
  have h2 : ((Int.gcd a p : Nat) : Int) ∣ p := Int.gcd_dvd_right ..
  have h3 : ((Int.gcd b q : Nat) : Int) ∣ b := Int.gcd_dvd_left ..
  have h4 : ((Int.gcd b q : Nat) : Int) ∣ q := Int.gcd_dvd_right ..
  have e1 := Int.tdiv_mul_cancel h1
  have e2 := Int.tdiv_mul_cancel h2
  have e3 := Int.tdiv_mul_cancel h3
  have e4 := Int.tdiv_mul_cancel h4
  have n2 : p.tdiv (Int.gcd a p : Nat) ≠ 0 := fun h => by rw [h] at e2; omega
  have n3 : b.tdiv (Int.gcd b q : Nat) ≠ 0 := fun h => by rw [h] at e3; omega
  refine redO_same (Int.mul_ne_zero (Int.mul_ne_zero (by omega) n3) n2) (Int.mul_ne_zero (by omega) (by omega)) ?_
  generalize a.tdiv (Int.gcd a p : Nat) = A at *
  generalize p.tdiv (Int.gcd a p : Nat) = P at *
  generalize b.tdiv (Int.gcd b q : Nat) = C at *
  generalize q.tdiv (Int.gcd b q : Nat) = D at *
  generalize ((Int.gcd a p : Nat) : Int) = g at *
  generalize ((Int.gcd b q : Nat) : Int) = k at *
  subst e1 e2 e3 e4
  ac_rfl
/-- Twice a variance fails where the square fails. -/
theorem twice_dead {p q y m n u v a b : Int} {t : Nat} (hs : sigmaB p q = true) (h : divO p q (t : Int) 1 = some (m, n)) (h2 : subO y 1 m n = some (u, v)) (h3 : mulO u v u v = some (a, b)) : redO (p * 2) (q * 1) ≠ none := by
  intro hn
  obtain ⟨hfr, hp0, hpq⟩ := sigmaB_of hs
  obtain ⟨hq1, hq2, hp1, hp2, hg⟩ := fracB_of hfr
  have hq0 : q * 1 ≠ 0 := by omega
  have hbig : 1000000000 < p * 2 := by
    rcases Int.lt_or_le 1000000000 (p * 2) with h9 | h9
    · exact h9
    · exfalso
      have k1 := redPQ (n := p * 2) hq0
      have k2 := redQ_pos (n := p * 2) hq0
      have k3 : 0 ≤ redP (p * 2) (q * 1) := sign_of k1 (by omega) (Int.mul_nonneg (by omega) (by omega))
      have hq3 : redQ (p * 2) (q * 1) ≤ q * 1 := by
        have h5 : (q * 1).tdiv (Int.gcd (p * 2) (q * 1) : Nat) * (Int.gcd (p * 2) (q * 1) : Nat) = q * 1 := Int.tdiv_mul_cancel (Int.gcd_dvd_right ..)
        have h6 := tdiv_abs (q * 1) (Int.gcd (p * 2) (q * 1) : Nat) (gcd_pos hq0)
        unfold redQ
        split <;> omega
      have hp3 : redP (p * 2) (q * 1) ≤ p * 2 := by
        have h6 := tdiv_abs (p * 2) (Int.gcd (p * 2) (q * 1) : Nat) (gcd_pos hq0)
        unfold redP
        split <;> omega
      rw [redO_yes hq0 ⟨by omega, by omega, by omega⟩] at hn
      cases hn
  have hq5 : 50000 < q := by omega
  -- the denominators only grow
  have d1 : q ∣ n := by
    have ht : ((t : Nat) : Int) ≠ 0 := fun h9 => by rw [divO_no h9] at h; cases h
    rw [divO_yes ht] at h
    have hr := redO_ratio h
    refine dvd_cop (p := p) ⟨m * t, ?_⟩ hg
    rw [Int.mul_one] at hr
    rw [← hr]; ac_rfl
  have hm := fracB_of (redO_frac (show redO (p * 1) (q * t) = some (m, n) by
    have ht : ((t : Nat) : Int) ≠ 0 := fun h9 => by rw [divO_no h9] at h; cases h
    rw [divO_yes ht] at h; exact h))
  have d2 : n ∣ v := by
    have hr := redO_ratio h2
    have hc : Int.gcd (y * n - m * 1) n = 1 := by
      have h7 : Int.gcd (y * n - m * 1) n ∣ Int.gcd m n := by
        refine Int.dvd_gcd ?_ (Int.gcd_dvd_right ..)
        have h8 : ((Int.gcd (y * n - m * 1) n : Nat) : Int) ∣ (y * n - m * 1) := Int.gcd_dvd_left ..
        have h9 : ((Int.gcd (y * n - m * 1) n : Nat) : Int) ∣ y * n := Int.dvd_mul_of_dvd_right (Int.gcd_dvd_right ..)
        have h10 := Int.dvd_sub h9 h8
        rwa [show y * n - (y * n - m * 1) = m by omega] at h10
      rw [hm.2.2.2.2] at h7
      exact Nat.dvd_one.1 h7
    refine dvd_cop (p := y * n - m * 1) ⟨u, ?_⟩ hc
    rw [← hr]; ac_rfl
  have hv := fracB_of (redO_frac h2)
  have d3 : v * v ∣ b := by
    have hr := redO_ratio h3
    have hc : Int.gcd (u * u) (v * v) = 1 := by
      have h7 : Nat.Coprime u.natAbs v.natAbs := hv.2.2.2.2
      show Nat.gcd (u * u).natAbs (v * v).natAbs = 1
      rw [Int.natAbs_mul, Int.natAbs_mul]
      exact Nat.Coprime.mul_left (Nat.Coprime.mul_right h7 h7) (Nat.Coprime.mul_right h7 h7)
    refine dvd_cop (p := u * u) ⟨a, ?_⟩ hc
    rw [← hr]; ac_rfl
  have hb := fracB_of (redO_frac h3)
  have l1 : n ≤ v := Int.le_of_dvd (by omega) d2
  have l2 : q ≤ n := Int.le_of_dvd (by omega) d1
  have l3 : v * v ≤ b := Int.le_of_dvd (by omega) d3
  have l4 : 50000 * 50000 ≤ v * v := Int.mul_le_mul (by omega) (by omega) (by omega) (by omega)
  omega
/-- The reference's quotient, where the square stands. -/
theorem acc_ref {p q y m n u v a b : Int} {t : Nat} (hs : sigmaB p q = true) (h : divO p q (t : Int) 1 = some (m, n)) (h2 : subO y 1 m n = some (u, v)) (h3 : mulO u v u v = some (a, b)) :
    ∃ p' q', mulO p q 2 1 = some (p', q') ∧ divO a b p' q' = redO (a * q) (b * (2 * p)) ∧ fracB p' q' = true := by
  obtain ⟨hfr, hp0, hpq⟩ := sigmaB_of hs
  obtain ⟨hq1, hq2, hp1, hp2, hg⟩ := fracB_of hfr
  cases hM : mulO p q 2 1 with
  | none => exact absurd hM (twice_dead hs h h2 h3)
  | some r =>
    obtain ⟨p', q'⟩ := r
    have hf := fracB_of (redO_frac hM)
    have hr := redO_ratio hM
    have hb := fracB_of (redO_frac h3)
    have hp' : p' ≠ 0 := by
      rintro rfl
      rw [Int.zero_mul] at hr
      have : 0 < p * 2 * q' := Int.mul_pos (by omega) (by omega)
      omega
    refine ⟨p', q', rfl, ?_, redO_frac hM⟩
    rw [divO_yes hp']
    refine redO_same (Int.mul_ne_zero (by omega) hp') (Int.mul_ne_zero (by omega) (by omega)) ?_
    rw [Int.mul_one] at hr
    calc a * q' * (b * (2 * p)) = a * b * (p * 2 * q') := by ac_rfl
      _ = a * b * (p' * q) := by rw [hr]
      _ = a * q * (b * p') := by ac_rfl
end Go.Proofs.Ytfkdmddfadkjoaa
