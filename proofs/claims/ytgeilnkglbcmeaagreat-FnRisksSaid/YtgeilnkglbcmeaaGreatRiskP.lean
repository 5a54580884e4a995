/- Sums of parts: plain law. -/
import Derived.Test.YtgeilnkglbcmeaaGreatIopB
import Derived.Test.YtgeilnkglbcmeaaGreatCert
namespace Go.Proofs.YtgeilnkglbcmeaaGreat
open Go.RowKit

/-- The sum of 1/L over the indices below k that P picks; none once it leaves the valid fractions. -/
def sumO (P : Nat → Bool) (L : Nat → Nat) : Nat → Option (Int × Int)
  | 0 => some (0, 1)
  | k + 1 => (sumO P L k).bind fun x => if P k = true then addO x.1 x.2 1 (L k : Nat) else some x
section
variable {P : Nat → Bool} {L : Nat → Nat} {k m : Nat} {p q : Int}
theorem sumO_no (h : sumO P L k = some (p, q)) (hp : P k = false) : sumO P L (k + 1) = some (p, q) := by
  unfold sumO; rw [h]; simp [hp]
theorem sumO_yes (h : sumO P L k = some (p, q)) (hp : P k = true) : sumO P L (k + 1) = addO p q 1 (L k : Nat) := by
  conv => lhs; unfold sumO
  rw [h]; simp [hp]
theorem sumO_stop (h : sumO P L k = none) (hk : k ≤ m) : sumO P L m = none := by
  induction m with
  | zero => obtain rfl : k = 0 := by omega
            exact h
  | succ m ih =>
    by_cases e : k = m + 1
    · rw [← e]; exact h
    · unfold sumO; rw [ih (by omega)]; rfl
theorem one_frac {l : Nat} (h1 : 1 ≤ l) (h2 : l ≤ 1000000) : fracB 1 (l : Nat) = true :=
  fracB_4 (inR_yes (by omega) (by omega)) (by decide) (by simp)
theorem sumO_frac (h : sumO P L k = some (p, q)) : fracB p q = true := by
  induction k generalizing p q with
  | zero =>
    have e : some ((0 : Int), (1 : Int)) = some (p, q) := h
    cases e
    decide
  | succ k ih =>
    cases hs : sumO P L k with
    | none => rw [sumO_stop hs (by omega)] at h; cases h
    | some r =>
      obtain ⟨x, y⟩ := r
      cases hp : P k
      · rw [sumO_no hs hp] at h; cases h; exact ih hs
      · rw [sumO_yes hs hp] at h; exact redO_frac h
end
theorem fr_some {R : Option (Int × Int)} {p q : Int} (h : R = some (p, q)) : fN R = p ∧ fD R = q ∧ fB R = true := by subst h; exact ⟨rfl, rfl, rfl⟩
theorem fr_none {R : Option (Int × Int)} (h : R = none) : fN R = 0 ∧ fD R = 0 ∧ fB R = false := by subst h; exact ⟨rfl, rfl, rfl⟩
/-- A valid fraction handed back beside a bool. -/
def RetFr (w : World) (R : Option (Int × Int)) (e : Ending) (w' : World) : Prop :=
  e = .returned (.tuple #[.agg #[.int .i64 (fN R), .int .i64 (fD R)], .bool (fB R)]) ∧ Below w.heap.size w w'
/-- The risk of a link, and the hits to expect. -/
def riskO (vs : List (ByteArray × Int)) (rs qs : List RecD) (us : List Int) : Option (Int × Int) :=
  if linkedB vs rs qs us = true ∧ rs.length ≠ 0 then (sumO (fun i => decide (0 < (setL vs us rs qs i).length)) (fun i => (setL vs us rs qs i).length) rs.length).bind fun x => divO x.1 x.2 (rs.length : Nat) 1 else none
def hitsO (vs : List (ByteArray × Int)) (rs qs : List RecD) (us : List Int) : Option (Int × Int) :=
  if linkedB vs rs qs us = true ∧ rs.length = qs.length then sumO (fun i => hasB (setL vs us rs qs i) (i : Int)) (fun i => (setL vs us rs qs i).length) rs.length else none
theorem has_pos {xs : List Int} {v : Int} (h : hasB xs v = true) : 1 ≤ xs.length := by
  have := hasB_mem.1 h
  cases xs with
  | nil => cases this
  | cons a b => simp
end Go.Proofs.YtgeilnkglbcmeaaGreat
