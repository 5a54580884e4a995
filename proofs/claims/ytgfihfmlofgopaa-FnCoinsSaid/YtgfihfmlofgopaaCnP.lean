/- Powers of fractions, chances of several coins, partial sums of the exponential: plain laws. -/
import Derived.Test.YtgfihfmlofgopaaAddF
namespace Go.Proofs.Ytgfihfmlofgopaa
open Go.RowKit

/-- A fraction handed back beside a bool. -/
def RetFr (w : World) (R : Option (Int × Int)) (e : Ending) (w' : World) : Prop :=
  e = .returned (.tuple #[.agg #[.int .i64 (fN R), .int .i64 (fD R)], .bool (fB R)]) ∧ Below w.heap.size w w'
theorem fr_some {R : Option (Int × Int)} {p q : Int} (h : R = some (p, q)) : fN R = p ∧ fD R = q ∧ fB R = true := by subst h; exact ⟨rfl, rfl, rfl⟩
theorem fr_none {R : Option (Int × Int)} (h : R = none) : fN R = 0 ∧ fD R = 0 ∧ fB R = false := by subst h; exact ⟨rfl, rfl, rfl⟩
/-- A fraction in lowest terms is the old one, both parts divided by one number. -/
theorem redO_part {n d p q : Int} (hd : 1 ≤ d) (h : redO n d = some (p, q)) : ∃ g : Int, 1 ≤ g ∧ n = g * p ∧ d = g * q := by
  have h0 : d ≠ 0 := by omega
  have hg := gcd_pos (n := n) h0
  have h1 : ((Int.gcd n d : Nat) : Int) ∣ d := Int.gcd_dvd_right ..
  have h2 : ((Int.gcd n d : Nat) : Int) ∣ n := Int.gcd_dvd_left ..
  have h3 : ¬ d.tdiv (Int.gcd n d : Nat) < 0 := fun h9 => by have := (tdiv_sign (n := n) h0).1 h9; omega
  obtain ⟨e1, e2⟩ := red_pos (n := n) (d := d) rfl rfl h3
  have e3 : redO n d = some (redP n d, redQ n d) := by
    unfold redO at h ⊢
    rw [if_neg h0] at h ⊢
    split at h
    · rename_i hb
      rw [if_pos hb]
    · cases h
  rw [e3, e1, e2] at h
  injection h with h
  injection h with hp hq
  refine ⟨((Int.gcd n d : Nat) : Int), hg, ?_, ?_⟩
  · rw [← hp, Int.mul_tdiv_cancel' h2]
  · rw [← hq, Int.mul_tdiv_cancel' h1]
theorem sq_nn (x : Int) : 0 ≤ x * x := by
  rcases Int.le_total 0 x with h | h
  · exact Int.mul_nonneg h h
  · have := Int.mul_nonneg (show 0 ≤ -x by omega) (show 0 ≤ -x by omega)
    rw [Int.neg_mul_neg] at this
    exact this
theorem dvd_copF {a b c : Int} (h : a ∣ b * c) (hg : Int.gcd a b = 1) : a ∣ c := by
  rw [← Int.natAbs_dvd_natAbs] at h ⊢
  rw [Int.natAbs_mul] at h
  exact Nat.Coprime.dvd_of_dvd_mul_left (show Nat.Coprime a.natAbs b.natAbs from hg) h
theorem redO_pos {n d p q : Int} (hd : 1 ≤ d) (h : redO n d = some (p, q)) : 1 ≤ q := by
  obtain ⟨g, hg, _, e⟩ := redO_part hd h
  have h1 : 0 < g * q := by omega
  have := Int.pos_of_mul_pos_right h1 (by omega)
  omega
/-- The parts of a fraction in lowest terms depend on its value alone. -/
theorem red_val {n d n' d' : Int} (hd : 1 ≤ d) (hd' : 1 ≤ d') (h : n * d' = n' * d) : redP n d = redP n' d' ∧ redQ n d = redQ n' d' := by
  have key : ∀ {n d : Int}, 1 ≤ d → ∃ g : Int, 1 ≤ g ∧ n = g * redP n d ∧ d = g * redQ n d ∧ Int.gcd (redP n d) (redQ n d) = 1 ∧ 1 ≤ redQ n d := fun {n d} hd => by
    have h0 : d ≠ 0 := by omega
    have hg := gcd_pos (n := n) h0
    have h1 : ((Int.gcd n d : Nat) : Int) ∣ d := Int.gcd_dvd_right ..
    have h2 : ((Int.gcd n d : Nat) : Int) ∣ n := Int.gcd_dvd_left ..
    have h3 : ¬ d.tdiv (Int.gcd n d : Nat) < 0 := fun h9 => by have := (tdiv_sign (n := n) h0).1 h9; omega
    obtain ⟨e1, e2⟩ := red_pos (n := n) (d := d) rfl rfl h3
    refine ⟨((Int.gcd n d : Nat) : Int), hg, ?_, ?_, red_gcd h0, redQ_pos h0⟩
    · rw [e1, Int.mul_tdiv_cancel' h2]
    · rw [e2, Int.mul_tdiv_cancel' h1]
  obtain ⟨g, hg, en, ed, hc, hq⟩ := key (n := n) hd
  obtain ⟨g', hg', en', ed', hc', hq'⟩ := key (n := n') hd'
  generalize redP n d = p at *
  generalize redQ n d = q at *
  generalize redP n' d' = p' at *
  generalize redQ n' d' = q' at *
  have hpq : p * q' = p' * q := by
    have h1 : (g * g') * (p * q') = (g * g') * (p' * q) := by
      rw [en, ed', en', ed] at h
      calc (g * g') * (p * q') = g * p * (g' * q') := by ac_rfl
        _ = g' * p' * (g * q) := h
        _ = (g * g') * (p' * q) := by ac_rfl
    have h2 : g * g' ≠ 0 := Int.mul_ne_zero (by omega) (by omega)
    exact Int.eq_of_mul_eq_mul_left h2 h1
  have d1 : q ∣ q' := by
    have : q ∣ p * q' := ⟨p', by rw [hpq, Int.mul_comm]⟩
    exact dvd_copF this (by rw [Int.gcd_comm]; exact hc)
  have d2 : q' ∣ q := by
    have : q' ∣ p' * q := ⟨p, by rw [← hpq, Int.mul_comm]⟩
    exact dvd_copF this (by rw [Int.gcd_comm]; exact hc')
  have eq : q = q' := Int.le_antisymm (Int.le_of_dvd (by omega) d1) (Int.le_of_dvd (by omega) d2)
  subst eq
  exact ⟨Int.eq_of_mul_eq_mul_right (show q ≠ 0 by omega) hpq, rfl⟩
theorem redO_val {n d n' d' : Int} (hd : 1 ≤ d) (hd' : 1 ≤ d') (h : n * d' = n' * d) : redO n d = redO n' d' := by
  obtain ⟨e1, e2⟩ := red_val hd hd' h
  unfold redO
  rw [if_neg (show d ≠ 0 by omega), if_neg (show d' ≠ 0 by omega), e1, e2]
theorem redO_selfF {a b : Int} (h : fracB a b = true) : redO a b = some (a, b) := by
  have hf := fracB_of h
  have hg : Int.gcd a b = 1 := (fracB_of h).2.2.2.2
  have e1 : a.tdiv (Int.gcd a b : Nat) = a := by rw [hg]; exact Int.tdiv_one a
  have e2 : b.tdiv (Int.gcd a b : Nat) = b := by rw [hg]; exact Int.tdiv_one b
  obtain ⟨h1, h2⟩ := red_pos e1 e2 (by omega)
  rw [redO_yes (by omega) (by rw [h1, h2]; exact ⟨hf.2.2.1, hf.2.2.2.1, hf.2.1⟩), h1, h2]
/-- A number of size at most 1 fits when its denominator does. -/
theorem unit_some {n d p q : Int} (hd : 1 ≤ d) (h0 : -d ≤ n) (h1 : n ≤ d) (hq : 1 ≤ q) (hq9 : q ≤ 1000000000) (h : n * q = p * d) : ∃ x y, redO n d = some (x, y) := by
  rw [redO_val hd hq h]
  have hp1 : p ≤ q := by
    refine Int.le_of_mul_le_mul_right (a := d) ?_ (by omega)
    rw [← h, Int.mul_comm q d]
    exact Int.mul_le_mul_of_nonneg_right h1 (by omega)
  have hp0 : -q ≤ p := by
    refine Int.le_of_mul_le_mul_right (a := d) ?_ (by omega)
    rw [← h, show -q * d = -d * q by rw [Int.neg_mul, Int.neg_mul, Int.mul_comm]]
    exact Int.mul_le_mul_of_nonneg_right h0 (by omega)
  have h0' : q ≠ 0 := by omega
  have hg := gcd_pos (n := p) h0'
  have g1 : ((Int.gcd p q : Nat) : Int) ∣ q := Int.gcd_dvd_right ..
  have g2 : ((Int.gcd p q : Nat) : Int) ∣ p := Int.gcd_dvd_left ..
  have g3 : ¬ q.tdiv (Int.gcd p q : Nat) < 0 := fun h9 => by have := (tdiv_sign (n := p) h0').1 h9; omega
  obtain ⟨e1, e2⟩ := red_pos (n := p) (d := q) rfl rfl g3
  have hQ := redQ_pos (n := p) h0'
  have f1 : ((Int.gcd p q : Nat) : Int) * redP p q = p := by rw [e1, Int.mul_tdiv_cancel' g2]
  have f2 : ((Int.gcd p q : Nat) : Int) * redQ p q = q := by rw [e2, Int.mul_tdiv_cancel' g1]
  generalize ((Int.gcd p q : Nat) : Int) = g at *
  generalize hP9 : redP p q = P at *
  generalize hQ9 : redQ p q = Q at *
  have hQq : Q ≤ q := by
    have := Int.mul_le_mul_of_nonneg_right hg (show 0 ≤ Q by omega)
    rw [Int.one_mul, f2] at this
    exact this
  have hPQ : P ≤ Q := Int.le_of_mul_le_mul_left (a := g) (by omega) (by omega)
  have hPQ0 : -Q ≤ P := Int.le_of_mul_le_mul_left (a := g) (by rw [Int.mul_neg]; omega) (by omega)
  refine ⟨P, Q, ?_⟩
  rw [redO_yes h0' (by rw [hP9, hQ9]; omega), hP9, hQ9]
theorem pow_pos_i {b : Int} (hb : 1 ≤ b) (k : Nat) : 1 ≤ b ^ k := by
  have h : 0 < b ^ k := Int.pow_pos (show 0 < b by omega)
  omega
theorem pow_unit {a b : Int} (hb : 1 ≤ b) (h0 : -b ≤ a) (h1 : a ≤ b) : ∀ k : Nat, -(b ^ k) ≤ a ^ k ∧ a ^ k ≤ b ^ k := by
  intro k
  induction k with
  | zero => simp
  | succ k ih =>
    have hp := pow_pos_i hb k
    rw [Int.pow_succ, Int.pow_succ]
    generalize a ^ k = x at *
    generalize b ^ k = y at *
    have key : ∀ u v : Int, -y ≤ u → u ≤ y → -b ≤ v → v ≤ b → u * v ≤ y * b := fun u v u0 u1 v0 v1 => by
      rcases Int.le_total 0 v with hv | hv
      · have h2 := Int.mul_le_mul_of_nonneg_right u1 hv
        have h3 := Int.mul_le_mul_of_nonneg_left v1 (show 0 ≤ y by omega)
        omega
      · have h2 := Int.mul_le_mul_of_nonneg_right (show -u ≤ y by omega) (show 0 ≤ -v by omega)
        have h3 := Int.mul_le_mul_of_nonneg_left (show -v ≤ b by omega) (show 0 ≤ y by omega)
        rw [Int.neg_mul_neg] at h2
        omega
    have k1 := key x a ih.1 ih.2 h0 h1
    have k2 := key (-x) a (by omega) (by omega) h0 h1
    rw [Int.neg_mul] at k2
    omega

/-- The k-th power, reduced at each step. -/
def powO (a b : Int) : Nat → Option (Int × Int)
  | 0 => some (1, 1)
  | k + 1 => (powO a b k).bind fun x => mulO x.1 x.2 a b
theorem powO_step {a b p q : Int} {k : Nat} (h : powO a b k = some (p, q)) : powO a b (k + 1) = mulO p q a b := by rw [powO, h]; rfl
theorem powO_stop {a b : Int} {k m : Nat} (h : powO a b k = none) (hk : k ≤ m) : powO a b m = none := by
  induction m with
  | zero => obtain rfl : k = 0 := by omega
            exact h
  | succ m ih =>
    by_cases e : k = m + 1
    · rw [← e]; exact h
    · rw [powO, ih (by omega)]; rfl
theorem powO_val {a b : Int} (hb : 1 ≤ b) : ∀ {k : Nat} {p q : Int}, powO a b k = some (p, q) → redO (a ^ k) (b ^ k) = some (p, q) := by
  intro k
  induction k with
  | zero =>
    intro p q h
    rw [powO] at h
    rw [← h, Int.pow_zero, Int.pow_zero]
    decide
  | succ k ih =>
    intro p q h
    cases hk : powO a b k with
    | none => rw [powO, hk] at h; cases h
    | some r =>
      obtain ⟨x, y⟩ := r
      have h1 := ih hk
      obtain ⟨g, hg, e1, e2⟩ := redO_part (pow_pos_i hb k) h1
      have hy := redO_pos (pow_pos_i hb k) h1
      rw [powO_step hk] at h
      rw [← h]
      unfold mulO
      refine redO_val (pow_pos_i hb _) (by have := Int.mul_le_mul hy hb (by omega) (by omega); simpa using this) ?_
      rw [Int.pow_succ, Int.pow_succ, e1, e2]
      ac_rfl
theorem powO_frac {a b p q : Int} {k : Nat} (h : powO a b k = some (p, q)) : fracB p q = true := by
  cases k with
  | zero =>
    rw [powO] at h
    cases h
    decide
  | succ k =>
    cases hk : powO a b k with
    | none => rw [powO, hk] at h; cases h
    | some r =>
      rw [powO, hk] at h
      exact redO_frac h
theorem powO_some {a b : Int} (hb : 1 ≤ b) (h0 : -b ≤ a) (h1 : a ≤ b) : ∀ k : Nat, b ^ k ≤ 1000000000 → ∃ p q, powO a b k = some (p, q) := by
  intro k
  induction k with
  | zero => intro _; exact ⟨1, 1, rfl⟩
  | succ k ih =>
    intro h9
    have hle : b ^ k ≤ b ^ (k + 1) := by
      rw [Int.pow_succ]
      have := Int.mul_le_mul_of_nonneg_left hb (show 0 ≤ b ^ k by have := pow_pos_i hb k; omega)
      rw [Int.mul_one] at this
      exact this
    obtain ⟨x, y, hk⟩ := ih (by omega)
    have hv := powO_val hb hk
    obtain ⟨g, hg, e1, e2⟩ := redO_part (pow_pos_i hb k) hv
    have hy := redO_pos (pow_pos_i hb k) hv
    rw [powO_step hk]
    unfold mulO
    obtain ⟨u0, u1⟩ := pow_unit hb h0 h1 (k + 1)
    obtain ⟨p, q, hr⟩ := unit_some (pow_pos_i hb (k + 1)) u0 u1 (pow_pos_i hb (k + 1)) h9 rfl
    refine ⟨p, q, ?_⟩
    rw [← hr]
    refine redO_val (by have := Int.mul_le_mul hy hb (by omega) (by omega); simpa using this) (pow_pos_i hb _) ?_
    rw [Int.pow_succ, Int.pow_succ, e1, e2]
    ac_rfl

/-- The i-th factorial, and the i-th term of the exponential. -/
def fct : Nat → Int
  | 0 => 1
  | i + 1 => fct i * ((i + 1 : Nat) : Int)
theorem fct_pos (i : Nat) : 1 ≤ fct i := by
  induction i with
  | zero => decide
  | succ i ih =>
    have := Int.mul_le_mul ih (show (1 : Int) ≤ ((i + 1 : Nat) : Int) by omega) (by omega) (by omega)
    simpa [fct] using this
def cT (a b : Int) (i : Nat) : Option (Int × Int) := redO ((-a) ^ i) (fct i * b ^ i)
theorem den_pos {b : Int} (hb : 1 ≤ b) (i : Nat) : 1 ≤ fct i * b ^ i := by
  have := Int.mul_le_mul (fct_pos i) (pow_pos_i hb i) (by omega) (by have := fct_pos i; omega)
  simpa using this
section
variable {a b : Int} {i : Nat}
theorem cT_zero : cT a b 0 = some (1, 1) := by
  unfold cT fct
  rw [Int.pow_zero, Int.pow_zero]
  decide
theorem ti_yes (hb : 1 ≤ b) {p q : Int} (h : powO (-a) b i = some (p, q)) : divO p q (fct i) 1 = cT a b i := by
  have hv := powO_val hb h
  obtain ⟨g, hg, e1, e2⟩ := redO_part (pow_pos_i hb i) hv
  have hq := redO_pos (pow_pos_i hb i) hv
  have hf := fct_pos i
  rw [divO_yes (by omega)]
  unfold cT
  refine redO_val (by have := Int.mul_le_mul hq hf (by omega) (by omega); simpa using this) (den_pos hb i) ?_
  rw [e1, e2]
  ac_rfl
theorem ti_no (hf : fracB a b = true) (h0 : 0 ≤ a) (h1 : a ≤ b) (h : powO (-a) b i = none) : cT a b i = none := by
  have hb : 1 ≤ b := (fracB_of hf).1
  cases hc : cT a b i with
  | none => rfl
  | some r =>
    obtain ⟨p, q⟩ := r
    unfold cT at hc
    obtain ⟨g, hg, e1, e2⟩ := redO_part (den_pos hb i) hc
    have hq9 := (fracB_of (redO_frac hc)).2.1
    have hq1 := redO_pos (den_pos hb i) hc
    have hco : Int.gcd ((-a) ^ i) (b ^ i) = 1 := by
      rw [Int.gcd_eq_natAbs_gcd_natAbs, Int.natAbs_pow, Int.natAbs_pow, Int.natAbs_neg]
      exact Nat.Coprime.pow _ _ (by have := (fracB_of hf).2.2.2.2; rwa [Int.gcd_eq_natAbs_gcd_natAbs] at this)
    have hdvd : b ^ i ∣ g * q := ⟨fct i, by rw [← e2, Int.mul_comm]⟩
    have hgc : Int.gcd (b ^ i) g = 1 := by
      have h5 : Int.gcd (b ^ i) g ∣ Int.gcd ((-a) ^ i) (b ^ i) := by
        refine Int.dvd_coe_gcd ?_ (Int.gcd_dvd_left ..) |> fun h => by exact_mod_cast h
        exact Int.dvd_trans (Int.gcd_dvd_right ..) ⟨p, e1⟩
      rw [hco] at h5
      exact Nat.dvd_one.1 h5
    have h6 : b ^ i ∣ q := dvd_copF hdvd hgc
    have h7 := Int.le_of_dvd (by omega) h6
    obtain ⟨x, y, hs⟩ := powO_some hb (a := -a) (by omega) (by omega) i (by omega)
    rw [h] at hs
    cases hs
theorem te_val (hb : 1 ≤ b) {x y : Int} (h : cT a b i = some (x, y)) : mulO x y (-a) b = redO ((-a) ^ (i + 1)) (fct i * b ^ (i + 1)) := by
  unfold cT at h
  obtain ⟨g, hg, e1, e2⟩ := redO_part (den_pos hb i) h
  have hy := redO_pos (den_pos hb i) h
  unfold mulO
  refine redO_val (by have := Int.mul_le_mul hy hb (by omega) (by omega); simpa using this) ?_ ?_
  · rw [Int.pow_succ, ← Int.mul_assoc]
    have := Int.mul_le_mul (den_pos hb i) hb (by omega) (by have := den_pos hb i; omega)
    simpa using this
  · rw [Int.pow_succ, Int.pow_succ, ← Int.mul_assoc (fct i), e1, e2]
    ac_rfl
theorem den_pos2 (hb : 1 ≤ b) : 1 ≤ fct i * b ^ (i + 1) := by
  have := Int.mul_le_mul (fct_pos i) (pow_pos_i hb (i + 1)) (by omega) (by have := fct_pos i; omega)
  simpa using this
theorem te_yes (hb : 1 ≤ b) {x y u v : Int} (h : cT a b i = some (x, y)) (h2 : mulO x y (-a) b = some (u, v)) : divO u v ((i + 1 : Nat) : Int) 1 = cT a b (i + 1) := by
  rw [te_val hb h] at h2
  obtain ⟨g, hg, e1, e2⟩ := redO_part (den_pos2 hb) h2
  have hv := redO_pos (den_pos2 hb) h2
  rw [divO_yes (by omega)]
  unfold cT
  refine redO_val (by have := Int.mul_le_mul hv (show (1 : Int) ≤ ((i + 1 : Nat) : Int) by omega) (by omega) (by omega); simpa using this) (den_pos hb _) ?_
  rw [show fct (i + 1) = fct i * ((i + 1 : Nat) : Int) from rfl, e1, show fct i * ((i + 1 : Nat) : Int) * b ^ (i + 1) = fct i * b ^ (i + 1) * ((i + 1 : Nat) : Int) by ac_rfl, e2]
  ac_rfl
theorem te_no (hb : 1 ≤ b) (h0 : 0 ≤ a) (h1 : a ≤ b) {x y : Int} (h : cT a b i = some (x, y)) (h2 : mulO x y (-a) b = none) : cT a b (i + 1) = none := by
  rw [te_val hb h] at h2
  cases hc : cT a b (i + 1) with
  | none => rfl
  | some r =>
    obtain ⟨p, q⟩ := r
    unfold cT at hc
    have hq9 := (fracB_of (redO_frac hc)).2.1
    have hq1 := redO_pos (den_pos hb (i + 1)) hc
    obtain ⟨g, hg, e1, e2⟩ := redO_part (den_pos hb (i + 1)) hc
    obtain ⟨u0, u1⟩ := pow_unit hb (show -b ≤ -a by omega) (show -a ≤ b by omega) (i + 1)
    have hle : b ^ (i + 1) ≤ fct i * b ^ (i + 1) := by
      have := Int.mul_le_mul_of_nonneg_right (fct_pos i) (show 0 ≤ b ^ (i + 1) by have := pow_pos_i hb (i + 1); omega)
      rw [Int.one_mul] at this
      exact this
    obtain ⟨x', y', hs⟩ := unit_some (n := (-a) ^ (i + 1)) (d := fct i * b ^ (i + 1)) (p := p * ((i + 1 : Nat) : Int)) (q := q) (den_pos2 hb) (by omega) (by omega) hq1 hq9 (by
      rw [e1, show p * ((i + 1 : Nat) : Int) * (fct i * b ^ (i + 1)) = p * (fct i * ((i + 1 : Nat) : Int) * b ^ (i + 1)) by ac_rfl, show fct i * ((i + 1 : Nat) : Int) = fct (i + 1) from rfl, e2]
      ac_rfl)
    rw [h2] at hs
    cases hs
/-- The sum of the terms up to the i-th. -/
def ebS (a b : Int) : Nat → Option (Int × Int)
  | 0 => some (1, 1)
  | i + 1 => (ebS a b i).bind fun s => (cT a b (i + 1)).bind fun t => addO s.1 s.2 t.1 t.2
theorem ebS_step {p q x y : Int} (h : ebS a b i = some (p, q)) (h2 : cT a b (i + 1) = some (x, y)) : ebS a b (i + 1) = addO p q x y := by rw [ebS, h, h2]; rfl
theorem ebS_no (h2 : cT a b (i + 1) = none) : ebS a b (i + 1) = none := by
  rw [ebS, h2]
  cases ebS a b i <;> rfl
theorem ebS_stop {k m : Nat} (h : ebS a b k = none) (hk : k ≤ m) : ebS a b m = none := by
  induction m with
  | zero => obtain rfl : k = 0 := by omega
            exact h
  | succ m ih =>
    by_cases e : k = m + 1
    · rw [← e]; exact h
    · rw [ebS, ih (by omega)]; rfl
theorem ebS_frac {p q : Int} (h : ebS a b i = some (p, q)) : fracB p q = true := by
  cases i with
  | zero =>
    rw [ebS] at h
    cases h
    decide
  | succ k =>
    cases hk : ebS a b k with
    | none => rw [ebS, hk] at h; cases h
    | some r =>
      cases hc : cT a b (k + 1) with
      | none => rw [ebS_no hc] at h; cases h
      | some t =>
        obtain ⟨x, y⟩ := r
        obtain ⟨u, v⟩ := t
        rw [ebS_step hk hc] at h
        exact redO_frac h
/-- An even term does not lower the sum. -/
theorem ebS_up (hb : 1 ≤ b) {p q x y : Int} (he : (i + 1) % 2 = 0) (h : ebS a b i = some (p, q)) (h2 : ebS a b (i + 1) = some (x, y)) : p * y ≤ x * q := by
  have hq := (fracB_of (ebS_frac h)).1
  have hy := (fracB_of (ebS_frac h2)).1
  cases hc : cT a b (i + 1) with
  | none => rw [ebS_no hc] at h2; cases h2
  | some t =>
    obtain ⟨u, v⟩ := t
    have hu : 0 ≤ u ∧ 1 ≤ v := by
      unfold cT at hc
      obtain ⟨g, hg, e1, e2⟩ := redO_part (den_pos hb (i + 1)) hc
      refine ⟨?_, redO_pos (den_pos hb (i + 1)) hc⟩
      have hn : 0 ≤ (-a) ^ (i + 1) := by
        obtain ⟨m, hm⟩ : ∃ m, i + 1 = 2 * m := ⟨(i + 1) / 2, by omega⟩
        rw [hm, Int.pow_mul, show (-a) ^ 2 = (-a) * (-a) by rw [Int.pow_succ, Int.pow_succ, Int.pow_zero, Int.one_mul]]
        exact Int.pow_nonneg (sq_nn _)
      rw [e1] at hn
      refine Int.le_of_mul_le_mul_left (a := g) ?_ (by omega)
      rw [Int.mul_zero]
      exact hn
    rw [ebS_step h hc] at h2
    unfold addO at h2
    have hqv : 1 ≤ q * v := by have := Int.mul_le_mul hq hu.2 (by omega) (by omega); simpa using this
    obtain ⟨g, hg, e1, e2⟩ := redO_part hqv h2
    have h5 : g * (p * y) * 1 ≤ g * (x * q) * 1 := by
      have e3 : g * (p * y) = p * (q * v) := by rw [e2]; ac_rfl
      have e4 : g * (x * q) = (p * v + u * q) * q := by rw [e1]; ac_rfl
      rw [e3, e4, Int.mul_one, Int.mul_one, Int.add_mul]
      have e5 : p * (q * v) = p * v * q := by ac_rfl
      have e6 : 0 ≤ u * q * q := Int.mul_nonneg (Int.mul_nonneg hu.1 (by omega)) (by omega)
      omega
    rw [Int.mul_one, Int.mul_one] at h5
    exact Int.le_of_mul_le_mul_left h5 (by omega)
end
end Go.Proofs.Ytgfihfmlofgopaa
