/- Plain facts on the digest: no program in sight. -/
import Derived.Lib.Hide
namespace Go.Proofs.Ytcjmapdeopffcaa

theorem tmod_bd (x p : Int) (hp : 0 < p) : -p < x.tmod p ∧ x.tmod p < p :=
  ⟨by have := Int.lt_tmod_of_pos x hp; omega, Int.tmod_lt_of_pos x hp⟩
theorem tmod_neg (x p : Int) (hp : 0 < p) (h : x.tmod p < 0) : x.tmod p + p = x % p := by
  rw [Int.tmod_eq_emod] at *
  split at h <;> rename_i hh
  · have := Int.emod_nonneg x (show p ≠ 0 by omega); omega
  · rw [if_neg hh]; omega
theorem tmod_pos (x p : Int) (hp : 0 < p) (h : 0 ≤ x.tmod p) : x.tmod p = x % p := by
  rw [Int.tmod_eq_emod] at *
  split at h <;> rename_i hh
  · rw [if_pos hh]; omega
  · have := Int.emod_lt_of_pos x hp; omega
theorem tmod_add (x p : Int) (hp : 0 < p) : (x.tmod p + p) % p = x % p := by
  rcases Int.lt_or_le (x.tmod p) 0 with h | h
  · rw [tmod_neg x p hp h, Int.emod_emod_of_dvd x (Int.dvd_refl p)]
  · rw [tmod_pos x p hp h, Int.add_emod_right, Int.emod_emod_of_dvd x (Int.dvd_refl p)]
theorem mul_bd (f n a b : Int) (h0 : 0 ≤ f) (h1 : f ≤ a) (h2 : 0 ≤ n) (h3 : n ≤ b) : 0 ≤ f * n ∧ f * n ≤ a * b :=
  ⟨Int.mul_nonneg h0 h2, Int.mul_le_mul h1 h3 h2 (by omega)⟩

/-- One step of the first and of the second half. -/
def stA (a x : Int) : Int := (48271 * a + x % 2147483647 + 1) % 2147483647
def stB (b x a : Int) : Int := (69621 * b + x % 2147483629 + a) % 2147483629
/-- Both halves behind k steps. -/
def digA (l : List Int) : Nat → Int
  | 0 => l.length
  | k + 1 => stA (digA l k) (l[k]?.getD 0)
def digB (l : List Int) : Nat → Int
  | 0 => 1
  | k + 1 => stB (digB l k) (l[k]?.getD 0) (digA l (k + 1))
def dig (l : List Int) : Int := digA l (l.length + 4) * 2147483648 + digB l (l.length + 4)

theorem digA_in (l : List Int) (k : Nat) (x : Int) (h : l[k]?.getD 0 = x) : (48271 * digA l k + x % 2147483647 + 1) % 2147483647 = digA l (k + 1) := by
  rw [← h]; rfl
theorem digB_in (l : List Int) (k : Nat) (x : Int) (h : l[k]?.getD 0 = x) : (69621 * digB l k + x % 2147483629 + digA l (k + 1)) % 2147483629 = digB l (k + 1) := by
  rw [← h]; rfl
theorem digB_in' (l : List Int) (k : Nat) (x : Int) (h : l[k]?.getD 0 = x) : (69621 * digB l k + x % 2147483629 + digA l (k + 1) % 2147483629) % 2147483629 = digB l (k + 1) := by
  rw [← digB_in l k x h]; omega
theorem digA_bd (l : List Int) (hl : l.length < 2147483647) (k : Nat) : 0 ≤ digA l k ∧ digA l k < 2147483647 := by
  cases k with
  | zero => simp only [digA]; omega
  | succ k => simp only [digA, stA]; omega
theorem digB_bd (l : List Int) (k : Nat) : 0 ≤ digB l k ∧ digB l k < 2147483629 := by
  cases k with
  | zero => simp only [digB]; omega
  | succ k => simp only [digB, stB]; omega
theorem dig_bd (l : List Int) (hl : l.length < 2147483647) : 0 ≤ dig l ∧ dig l ≤ 4611686016279904236 := by
  have h1 := digA_bd l hl (l.length + 4)
  have h2 := digB_bd l (l.length + 4)
  unfold dig; omega
end Go.Proofs.Ytcjmapdeopffcaa
