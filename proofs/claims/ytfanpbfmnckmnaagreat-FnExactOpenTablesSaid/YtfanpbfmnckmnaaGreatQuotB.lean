/- Lowest terms are one for all fractions of one value. -/
import Derived.Test.YtfanpbfmnckmnaaGreatFopB
namespace Go.Proofs.YtfanpbfmnckmnaaGreat
open Go.RowKit

theorem redPQ {n d : Int} (hd : d ≠ 0) : redP n d * d = n * redQ n d := by
  have h1 : ((Int.gcd n d : Nat) : Int) ∣ n := Int.gcd_dvd_left ..
  have h2 : ((Int.gcd n d : Nat) : Int) ∣ d := Int.gcd_dvd_right ..
  have e1 := Int.tdiv_mul_cancel h1
  have e2 := Int.tdiv_mul_cancel h2
  unfold redP redQ
  generalize n.tdiv (Int.gcd n d : Nat) = P at *
  generalize d.tdiv (Int.gcd n d : Nat) = Q at *
  generalize ((Int.gcd n d : Nat) : Int) = G at *
  subst e1
  subst e2
  have e3 : P * (Q * G) = P * G * Q := by rw [Int.mul_assoc, Int.mul_comm Q G]
  split
  · rw [Int.neg_mul, Int.mul_neg, e3]
  · exact e3
theorem dvd_cop {q p r : Int} (h : q ∣ p * r) (hg : Int.gcd p q = 1) : q ∣ r := by
  rw [← Int.natAbs_dvd_natAbs, Int.natAbs_mul] at h
  rw [← Int.natAbs_dvd_natAbs]
  exact Nat.Coprime.dvd_of_dvd_mul_left (show Nat.Coprime q.natAbs p.natAbs by rw [Nat.coprime_comm]; exact hg) h
/-- Two fractions in lowest terms of one value are one. -/
theorem low_one {p q p' q' : Int} (hq : 1 ≤ q) (hq' : 1 ≤ q') (h : p * q' = p' * q) (hg : Int.gcd p q = 1) (hg' : Int.gcd p' q' = 1) : p = p' ∧ q = q' := by
  have d1 : q ∣ q' := by
    have h1 : q ∣ p * q' := ⟨p', by rw [h, Int.mul_comm]⟩
    exact dvd_cop h1 hg
  have d2 : q' ∣ q := by
    have h1 : q' ∣ p' * q := ⟨p, by rw [← h, Int.mul_comm]⟩
    exact dvd_cop h1 hg'
  have e : q = q' := Int.le_antisymm (Int.le_of_dvd (by omega) d1) (Int.le_of_dvd (by omega) d2)
  subst e
  exact ⟨Int.eq_of_mul_eq_mul_right (by omega) h, rfl⟩
theorem red_same {n d n' d' : Int} (hd : d ≠ 0) (hd' : d' ≠ 0) (h : n * d' = n' * d) : redP n d = redP n' d' ∧ redQ n d = redQ n' d' := by
  refine low_one (redQ_pos hd) (redQ_pos hd') ?_ (red_gcd hd) (red_gcd hd')
  have e1 := redPQ (n := n) hd
  have e2 := redPQ (n := n') hd'
  generalize redP n d = P at *
  generalize redQ n d = Q at *
  generalize redP n' d' = P' at *
  generalize redQ n' d' = Q' at *
  have hdd : d * d' ≠ 0 := Int.mul_ne_zero hd hd'
  refine Int.eq_of_mul_eq_mul_right hdd ?_
  calc P * Q' * (d * d') = (P * d) * (Q' * d') := by ac_rfl
    _ = (n * Q) * (Q' * d') := by rw [e1]
    _ = (n * d') * (Q * Q') := by ac_rfl
    _ = (n' * d) * (Q * Q') := by rw [h]
    _ = (n' * Q') * (Q * d) := by ac_rfl
    _ = (P' * d') * (Q * d) := by rw [e2]
    _ = P' * Q * (d * d') := by ac_rfl
theorem redO_same {n d n' d' : Int} (hd : d ≠ 0) (hd' : d' ≠ 0) (h : n * d' = n' * d) : redO n d = redO n' d' := by
  have := red_same hd hd' h
  unfold redO
  rw [if_neg hd, if_neg hd', this.1, this.2]
/-- A fraction in lowest terms stays as it is. -/
theorem redO_self {p q : Int} (h : fracB p q = true) : redO p q = some (p, q) := by
  have hf := fracB_of h
  have hl := low_one (redQ_pos (n := p) (show q ≠ 0 by omega)) hf.1 (redPQ (by omega)) (red_gcd (by omega)) hf.2.2.2.2
  rw [redO_yes (by omega) (by rw [hl.1, hl.2]; omega), hl.1, hl.2]
/-- What redO gives stands in the same ratio. -/
theorem redO_ratio {n d p q : Int} (h : redO n d = some (p, q)) : p * d = n * q := by
  by_cases hd : d = 0
  · subst hd; rw [redO_zero] at h; cases h
  · by_cases hb : -1000000000 ≤ redP n d ∧ redP n d ≤ 1000000000 ∧ redQ n d ≤ 1000000000
    · rw [redO_yes hd hb] at h
      simp only [Option.some.injEq, Prod.mk.injEq] at h
      rw [← h.1, ← h.2]
      exact redPQ hd
    · rw [redO_no hd hb] at h; cases h
theorem redO_den {n d p q : Int} (h : redO n d = some (p, q)) : d ≠ 0 := by
  rintro rfl
  rw [redO_zero] at h; cases h
end Go.Proofs.YtfanpbfmnckmnaaGreat
