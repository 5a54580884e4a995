/- Risks: plain laws. A risk is a number from 0 to 1; the least identifying variables identify. -/
import Derived.Test.YtgeilnkglbcmeaaGreatRiskP
import Derived.Test.YtgeilnkglbcmeaaGreatLid
namespace Go.Proofs.YtgeilnkglbcmeaaGreat
open Go.RowKit

/-- A fraction in lowest terms is the old one, both parts divided by one number. -/
theorem redO_part {n d p q : Int} (hd : 1 ≤ d) (h : redO n d = some (p, q)) : ∃ g : Int, 1 ≤ g ∧ n = g * p ∧ d = g * q := by
  have h0 : d ≠ 0 := by omega
  have hg := gcd_pos (n := n) h0
  have h1 : ((Int.gcd n d : Nat) : Int) ∣ d := Int.gcd_dvd_right ..
  have h2 : ((Int.gcd n d : Nat) : Int) ∣ n := Int.gcd_dvd_left ..
  have h3 : ¬ d.tdiv (Int.gcd n d : Nat) < 0 := fun h9 => by have := (tdiv_sign (n := n) h0).1 h9; omega
  obtain ⟨e1, e2⟩ := red_pos (n := n) (d := d) rfl rfl h3
  have e3 : redO n d = some (redP n d, redQ n d) := by
    unfold redO at h ⊢
    rw [if_neg h0] at h ⊢
    split at h
    · rename_i hb
      rw [if_pos hb]
    · cases h
  rw [e3, e1, e2] at h
  injection h with h
  injection h with hp hq
  refine ⟨((Int.gcd n d : Nat) : Int), hg, ?_, ?_⟩
  · rw [← hp, Int.mul_tdiv_cancel' h2]
  · rw [← hq, Int.mul_tdiv_cancel' h1]
theorem mul_le_left {g a b : Int} (hg : 1 ≤ g) (h : g * a ≤ g * b) : a ≤ b := Int.le_of_mul_le_mul_left h (by omega)
theorem mul_nonneg_left {g a : Int} (hg : 1 ≤ g) (h : 0 ≤ g * a) : 0 ≤ a := by
  refine Int.le_of_mul_le_mul_left (a := g) ?_ (by omega)
  rw [Int.mul_zero]
  exact h
/-- A sum of k parts of at most one each is at most k. -/
theorem sumO_bd {P : Nat → Bool} {L : Nat → Nat} (hL : ∀ i, P i = true → 1 ≤ L i) : ∀ {k : Nat} {p q : Int}, sumO P L k = some (p, q) → 1 ≤ q ∧ 0 ≤ p ∧ p ≤ (k : Int) * q := by
  intro k
  induction k with
  | zero =>
    intro p q h
    have e : some ((0 : Int), (1 : Int)) = some (p, q) := h
    cases e
    exact ⟨by omega, by omega, by omega⟩
  | succ k ih =>
    intro p q h
    cases hs : sumO P L k with
    | none => rw [sumO_stop hs (by omega)] at h; cases h
    | some r =>
      obtain ⟨x, y⟩ := r
      obtain ⟨h1, h2, h3⟩ := ih hs
      cases hp : P k
      · rw [sumO_no hs hp] at h
        cases h
        refine ⟨h1, h2, Int.le_trans h3 (Int.mul_le_mul_of_nonneg_right (by omega) (by omega))⟩
      · rw [sumO_yes hs hp] at h
        have hl : (1 : Int) ≤ ((L k : Nat) : Int) := by have := hL k hp; omega
        generalize ((L k : Nat) : Int) = l at *
        have hq := fracB_of (redO_frac h)
        have hd : 1 ≤ y * l := by
          have := Int.mul_le_mul h1 hl (by omega) (by omega)
          simpa using this
        obtain ⟨g, hg, e1, e2⟩ := redO_part hd h
        have hn0 : 0 ≤ x * l + 1 * y := by
          have := Int.mul_nonneg h2 (show 0 ≤ l by omega)
          omega
        have hq1 : 1 ≤ q := by
          have : 0 < g * q := by rw [← e2]; omega
          have := Int.pos_of_mul_pos_right this (by omega) |> fun h => h
          omega
        refine ⟨hq1, mul_nonneg_left hg (by rw [← e1]; exact hn0), mul_le_left hg ?_⟩
        have e3 : g * (((k + 1 : Nat) : Int) * q) = ((k + 1 : Nat) : Int) * (y * l) := by rw [e2]; rw [← Int.mul_assoc, ← Int.mul_assoc, Int.mul_comm g]
        rw [e3, ← e1]
        have a1 : x * l ≤ (k : Int) * y * l := Int.mul_le_mul_of_nonneg_right h3 (by omega)
        have a2 : y ≤ y * l := by
          have := Int.mul_le_mul_of_nonneg_left hl (show 0 ≤ y by omega)
          rw [Int.mul_one] at this
          exact this
        have e4 : ((k + 1 : Nat) : Int) * (y * l) = (k : Int) * y * l + y * l := by
          rw [show ((k + 1 : Nat) : Int) = (k : Int) + 1 by omega, Int.add_mul, Int.one_mul, Int.mul_assoc]
        rw [e4]
        omega
theorem risk_unit {vs : List (ByteArray × Int)} {rs qs : List RecD} {us : List Int} {p q : Int} (h : riskO vs rs qs us = some (p, q)) : 0 ≤ p ∧ p ≤ q := by
  unfold riskO at h
  split at h
  · rename_i hc
    cases hs : sumO (fun i => decide (0 < (setL vs us rs qs i).length)) (fun i => (setL vs us rs qs i).length) rs.length with
    | none => rw [hs] at h; cases h
    | some r =>
      obtain ⟨x, y⟩ := r
      rw [hs] at h
      have h : divO x y (rs.length : Nat) 1 = some (p, q) := h
      obtain ⟨h1, h2, h3⟩ := sumO_bd (fun i hi => by have := of_decide_eq_true hi; omega) hs
      have hn : (1 : Int) ≤ (rs.length : Nat) := by have := hc.2; omega
      rw [divO_yes (by omega), Int.mul_one] at h
      generalize ((rs.length : Nat) : Int) = m at *
      have hd : 1 ≤ y * m := by
        have := Int.mul_le_mul h1 hn (by omega) (by omega)
        simpa using this
      obtain ⟨g, hg, e1, e2⟩ := redO_part hd h
      refine ⟨mul_nonneg_left hg (by rw [← e1]; exact h2), mul_le_left hg ?_⟩
      rw [← e1, ← e2, Int.mul_comm]
      exact h3
  · cases h
theorem liS_met {vs : List (ByteArray × Int)} {rs : List RecD} {i : Nat} : ∀ k, (liS vs rs i k).1 = true → ∃ t, t < k ∧ (liS vs rs i k).2 = memV (t : Int) ∧ liU vs rs i t = true := by
  intro k
  induction k with
  | zero => intro h; cases h
  | succ k ih =>
    intro h
    simp only [liS] at h ⊢
    split
    · rename_i hc
      exact ⟨k, by omega, rfl, hc.1⟩
    · rename_i hc
      rw [if_neg hc] at h
      obtain ⟨t, ht, e, hu⟩ := ih h
      exact ⟨t, by omega, e, hu⟩
theorem lid_met {vs : List (ByteArray × Int)} {rs : List RecD} {i : Int} (h : (liR vs rs i).1 = true) : keyedB vs rs (liR vs rs i).2 = true ∧ hasB (uqV vs rs (liR vs rs i).2) i = true := by
  unfold liR at h ⊢
  split at h
  · rename_i hb
    rw [if_pos hb]
    obtain ⟨t, ht, e, hu⟩ := liS_met _ h
    unfold liB dinB at hb
    simp only [Bool.and_eq_true] at hb
    have hi := inR_of hb.2
    have hall := din_all rfl hb.1.1 hb.1.2 ht
    have hk : keyedB vs rs (liS vs rs i.toNat (2 ^ vs.length)).2 = true := by
      rw [e]
      unfold keyedB
      rw [hall.s, hall.d, hall.r]
      rfl
    refine ⟨hk, ?_⟩
    rw [uqV, if_pos hk, e]
    unfold uqL
    have e2 : i = ((i.toNat : Nat) : Int) := by omega
    rw [e2, hasB_link (by omega)]
    exact hu
  · cases h
/-- Whether v is among the first t. -/
def metU (xs : List Int) (v : Int) (t : Nat) : Bool := hasB (xs.take t) v
theorem metU_succ {xs : List Int} {v : Int} {t : Nat} (h : t < xs.length) : metU xs v (t + 1) = (metU xs v t || xs[t]?.getD 0 == v) := by
  have e : xs.take (t + 1) = xs.take t ++ [xs[t]?.getD 0] := by
    rw [List.take_add_one, List.getElem?_eq_getElem h]; rfl
  have h1 : ∀ ys : List Int, hasB ys v = decide (v ∈ ys) := fun ys => by
    cases hb : hasB ys v
    · exact (decide_eq_false fun hm => by rw [hasB_mem.2 hm] at hb; cases hb).symm
    · exact (decide_eq_true (hasB_mem.1 hb)).symm
  unfold metU
  rw [h1, h1, e]
  rw [Bool.eq_iff_iff]
  simp only [List.mem_append, List.mem_singleton, decide_eq_true_eq, Bool.or_eq_true, beq_iff_eq]
  exact ⟨fun h => h.imp id Eq.symm, fun h => h.imp id Eq.symm⟩
theorem metU_end {xs : List Int} {v : Int} : metU xs v xs.length = hasB xs v := by unfold metU; rw [List.take_length]
end Go.Proofs.YtgeilnkglbcmeaaGreat
