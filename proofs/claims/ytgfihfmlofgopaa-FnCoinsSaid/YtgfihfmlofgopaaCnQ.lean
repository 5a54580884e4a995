/- Chances of several coins: plain law. They add up to 1. -/
import Derived.Test.YtgfihfmlofgopaaCnP
namespace Go.Proofs.Ytgfihfmlofgopaa
open Go.RowKit

def fx (xs : List (Int × Int)) (j : Nat) : Int × Int := xs[j]?.getD (0, 0)
/-- A row of fractions, as it reads. -/
def FracsR (w : World) (A : Option Addr) (n : Nat) (xs : List (Int × Int)) : Prop :=
  xs.length = n ∧ (0 < n → ∃ ad, A = some ad ∧ ∀ j, j < n → w.cell? (ad.add (j * 2)) = some (.int .i64 (fx xs j).1) ∧ w.cell? ⟨(ad.add (j * 2)).block, (ad.add (j * 2)).off + 1, none⟩ = some (.int .i64 (fx xs j).2))
theorem FracsR.at_ {w : World} {A : Option Addr} {n k : Nat} {xs : List (Int × Int)} (h : FracsR w A n xs) (hk : k < n) : ∃ ad, A = some ad ∧ w.cell? (ad.add (k * 2)) = some (.int .i64 (fx xs k).1) ∧ w.cell? ⟨(ad.add (k * 2)).block, (ad.add (k * 2)).off + 1, none⟩ = some (.int .i64 (fx xs k).2) := by
  obtain ⟨ad, e, hc⟩ := h.2 (by omega)
  exact ⟨ad, e, hc k hk⟩
theorem FracsR.below {w w' : World} {A : Option Addr} {n : Nat} {xs : List (Int × Int)} (h : FracsR w A n xs) (hb : Below w.heap.size w w') : FracsR w' A n xs :=
  ⟨h.1, fun h0 => by
    obtain ⟨ad, e, hc⟩ := h.2 h0
    exact ⟨ad, e, fun j hj => ⟨(hb.cell (block_lt_of_cell (hc j hj).1)).trans (hc j hj).1, (hb.cell (p := ⟨(ad.add (j * 2)).block, (ad.add (j * 2)).off + 1, none⟩) (block_lt_of_cell (hc j hj).2)).trans (hc j hj).2⟩⟩⟩
/-- The sum of the first j. -/
def smO (xs : List (Int × Int)) : Nat → Option (Int × Int)
  | 0 => some (0, 1)
  | j + 1 => (smO xs j).bind fun s => addO s.1 s.2 (fx xs j).1 (fx xs j).2
section
variable {xs : List (Int × Int)} {j k : Nat} {p q : Int}
theorem smO_step (h : smO xs j = some (p, q)) : smO xs (j + 1) = addO p q (fx xs j).1 (fx xs j).2 := by rw [smO, h]; rfl
theorem smO_stop (h : smO xs j = none) (hk : j ≤ k) : smO xs k = none := by
  induction k with
  | zero => obtain rfl : j = 0 := by omega
            exact h
  | succ k ih =>
    by_cases e : j = k + 1
    · rw [← e]; exact h
    · rw [smO, ih (by omega)]; rfl
theorem smO_frac (h : smO xs j = some (p, q)) : fracB p q = true := by
  cases j with
  | zero => rw [smO] at h; cases h; decide
  | succ j =>
    cases hk : smO xs j with
    | none => rw [smO, hk] at h; cases h
    | some r =>
      rw [smO, hk] at h
      exact redO_frac h
end
def chv (n : Nat) : Nat → Nat
  | 0 => 1
  | i + 1 => chv n i * (n - i) / (i + 1)
def elO (a b : Int) (n i : Nat) : Option (Int × Int) := (powO a b i).bind fun A => (powO (b - a) b (n - i)).bind fun B => (mulO A.1 A.2 B.1 B.2).bind fun C => mulO C.1 C.2 (chv n i : Nat) 1
/-- The first j chances. -/
def lsO (a b : Int) (n : Nat) : Nat → Option (List (Int × Int))
  | 0 => some []
  | j + 1 => (lsO a b n j).bind fun L => (elO a b n j).map fun x => L ++ [x]
section
variable {a b : Int} {n j k : Nat} {L : List (Int × Int)} {x : Int × Int}
theorem lsO_step (h : lsO a b n j = some L) (h2 : elO a b n j = some x) : lsO a b n (j + 1) = some (L ++ [x]) := by rw [lsO, h, h2]; rfl
theorem lsO_no (h2 : elO a b n j = none) (hk : j < k) : lsO a b n k = none := by
  induction k with
  | zero => omega
  | succ k ih =>
    rw [lsO]
    by_cases e : j = k
    · subst e
      rw [h2]
      cases lsO a b n j <;> rfl
    · rw [ih (by omega)]; rfl
theorem lsO_len : ∀ {j : Nat} {L : List (Int × Int)}, lsO a b n j = some L → L.length = j := by
  intro j
  induction j with
  | zero => intro L h; rw [lsO] at h; cases h; rfl
  | succ j ih =>
    intro L h
    cases hj : lsO a b n j with
    | none => rw [lsO, hj] at h; cases h
    | some M =>
      cases he : elO a b n j with
      | none => rw [lsO_no he (Nat.lt_succ_self _)] at h; cases h
      | some x =>
        rw [lsO_step hj he] at h
        cases h
        simp [ih hj]
theorem lsO_at : ∀ {j : Nat} {L : List (Int × Int)}, lsO a b n j = some L → ∀ i, i < j → elO a b n i = some (fx L i) := by
  intro j
  induction j with
  | zero => intro L _ i hi; omega
  | succ j ih =>
    intro L h i hi
    cases hj : lsO a b n j with
    | none => rw [lsO, hj] at h; cases h
    | some M =>
      cases he : elO a b n j with
      | none => rw [lsO_no he (Nat.lt_succ_self _)] at h; cases h
      | some x =>
        rw [lsO_step hj he] at h
        cases h
        have hl := lsO_len hj
        by_cases e : i = j
        · subst e
          rw [he]
          unfold fx
          rw [List.getElem?_append_right (by omega), hl, Nat.sub_self]
          rfl
        · rw [ih hj i (by omega)]
          unfold fx
          rw [List.getElem?_append_left (by omega)]
theorem elO_frac (h : elO a b n j = some x) : fracB x.1 x.2 = true := by
  unfold elO at h
  cases h1 : powO a b j with
  | none => rw [h1] at h; cases h
  | some A =>
    rw [h1] at h
    cases h2 : powO (b - a) b (n - j) with
    | none => simp only [Option.bind_some, h2] at h; cases h
    | some B =>
      simp only [Option.bind_some, h2] at h
      cases h3 : mulO A.1 A.2 B.1 B.2 with
      | none => rw [h3] at h; cases h
      | some C =>
        rw [h3] at h
        exact redO_frac (p := x.1) (q := x.2) h
end
/-- p/q is N/D. -/
def ValQ (p q N D : Int) : Prop := p * D = N * q ∧ 1 ≤ q
theorem mul_one_le {x y : Int} (hx : 1 ≤ x) (hy : 1 ≤ y) : 1 ≤ x * y := by
  have := Int.mul_le_mul hx hy (by omega) (by omega)
  simpa using this
theorem ValQ.mul {p q N D p' q' N' D' r s : Int} (h : ValQ p q N D) (h' : ValQ p' q' N' D') (hm : mulO p q p' q' = some (r, s)) : ValQ r s (N * N') (D * D') := by
  unfold mulO at hm
  have hq := mul_one_le h.2 h'.2
  obtain ⟨g, hg, e1, e2⟩ := redO_part hq hm
  refine ⟨?_, redO_pos hq hm⟩
  have h1 := h.1
  have h2 := h'.1
  have h3 : g * (r * (D * D')) = g * (N * N' * s) := by
    calc g * (r * (D * D')) = (g * r) * (D * D') := by ac_rfl
      _ = (p * p') * (D * D') := by rw [e1]
      _ = (p * D) * (p' * D') := by ac_rfl
      _ = (N * q) * (N' * q') := by rw [h1, h2]
      _ = N * N' * (q * q') := by ac_rfl
      _ = N * N' * (g * s) := by rw [e2]
      _ = g * (N * N' * s) := by ac_rfl
  exact Int.eq_of_mul_eq_mul_left (show g ≠ 0 by omega) h3
theorem ValQ.add {p q N D p' q' N' r s : Int} (h : ValQ p q N D) (h' : ValQ p' q' N' D) (hm : addO p q p' q' = some (r, s)) : ValQ r s (N + N') D := by
  unfold addO at hm
  have hq := mul_one_le h.2 h'.2
  obtain ⟨g, hg, e1, e2⟩ := redO_part hq hm
  refine ⟨?_, redO_pos hq hm⟩
  have h1 := h.1
  have h2 := h'.1
  have h3 : g * (r * D) = g * ((N + N') * s) := by grind
  exact Int.eq_of_mul_eq_mul_left (show g ≠ 0 by omega) h3
theorem ValQ.pow {a b p q : Int} {k : Nat} (hb : 1 ≤ b) (h : powO a b k = some (p, q)) : ValQ p q (a ^ k) (b ^ k) := by
  have hv := powO_val hb h
  obtain ⟨g, hg, e1, e2⟩ := redO_part (pow_pos_i hb k) hv
  refine ⟨?_, redO_pos (pow_pos_i hb k) hv⟩
  rw [e1, e2]
  ac_rfl
theorem elO_val {a b : Int} {n i : Nat} {x : Int × Int} (hb : 1 ≤ b) (hi : i ≤ n) (h : elO a b n i = some x) : ValQ x.1 x.2 ((chv n i : Int) * (a ^ i * (b - a) ^ (n - i))) (b ^ n) := by
  unfold elO at h
  cases h1 : powO a b i with
  | none => rw [h1] at h; cases h
  | some A =>
    rw [h1] at h
    cases h2 : powO (b - a) b (n - i) with
    | none => simp only [Option.bind_some, h2] at h; cases h
    | some B =>
      simp only [Option.bind_some, h2] at h
      cases h3 : mulO A.1 A.2 B.1 B.2 with
      | none => rw [h3] at h; cases h
      | some C =>
        rw [h3] at h
        have v1 := ValQ.mul (ValQ.pow hb h1) (ValQ.pow hb h2) h3
        have v0 : ValQ ((chv n i : Nat) : Int) 1 (chv n i : Int) 1 := ⟨rfl, by omega⟩
        have v2 := ValQ.mul v1 v0 (r := x.1) (s := x.2) h
        have e : b ^ i * b ^ (n - i) = b ^ n := by rw [← Int.pow_add]; congr 1; omega
        rw [e, Int.mul_one] at v2
        rw [Int.mul_comm (chv n i : Int)]
        exact v2
def bs (n : Nat) (a c : Int) : Nat → Int
  | 0 => 0
  | j + 1 => bs n a c j + (chv n j : Int) * (a ^ j * c ^ (n - j))
theorem bs_all (n : Nat) (hn : n ≤ 8) (a c : Int) : bs n a c (n + 1) = (a + c) ^ n := by
  match n, hn with
  | 0, _ => simp [bs, chv]
  | 1, _ => simp [bs, chv]; grind
  | 2, _ => simp [bs, chv]; grind
  | 3, _ => simp [bs, chv]; grind
  | 4, _ => simp [bs, chv]; grind
  | 5, _ => simp [bs, chv]; grind
  | 6, _ => simp [bs, chv]; grind
  | 7, _ => simp [bs, chv]; grind
  | 8, _ => simp [bs, chv]; grind
theorem smO_val {a b : Int} {n : Nat} {L : List (Int × Int)} (hb : 1 ≤ b) (hL : lsO a b n (n + 1) = some L) : ∀ {j : Nat} {p q : Int}, j ≤ n + 1 → smO L j = some (p, q) → ValQ p q (bs n a (b - a) j) (b ^ n) := by
  intro j
  induction j with
  | zero =>
    intro p q _ h
    rw [smO] at h
    cases h
    exact ⟨by simp [bs], by omega⟩
  | succ j ih =>
    intro p q hj h
    cases hs : smO L j with
    | none => rw [smO, hs] at h; cases h
    | some r =>
      obtain ⟨u, v⟩ := r
      rw [smO_step hs] at h
      exact (ih (by omega) hs).add (elO_val hb (by omega) (lsO_at hL j (by omega))) h
/-- The chances add up to 1. -/
theorem sum_one {a b p q : Int} {n : Nat} {L : List (Int × Int)} (hb : 1 ≤ b) (hn : n ≤ 8) (hL : lsO a b n (n + 1) = some L) (h : smO L (n + 1) = some (p, q)) : p = 1 ∧ q = 1 := by
  have hv := smO_val hb hL (Nat.le_refl _) h
  have hf := fracB_of (smO_frac h)
  rw [bs_all n hn, show a + (b - a) = b by omega] at hv
  have hp := pow_pos_i hb n
  have e : p = q := by
    have := hv.1
    rw [Int.mul_comm (b ^ n)] at this
    exact Int.eq_of_mul_eq_mul_right (show b ^ n ≠ 0 by omega) this
  subst e
  have hg := hf.2.2.2.2
  rw [Int.gcd_self] at hg
  omega
/-- What is left of a chance. -/
theorem rest_eq {a b : Int} (hf : fracB a b = true) (_h0 : 0 ≤ a) (_h1 : a ≤ b) : redO (1 * b - a * 1) (1 * b) = some (b - a, b) := by
  have h := fracB_of hf
  rw [Int.one_mul, Int.mul_one]
  refine redO_selfF (fracB_4 (inR_yes h.1 h.2.1) (inR_yes (by omega) (by omega)) ?_)
  rw [Int.gcd_comm, Int.gcd_self_sub_right, Int.gcd_comm]
  exact h.2.2.2.2
theorem rest_frac {a b : Int} (hf : fracB a b = true) (h0 : 0 ≤ a) (h1 : a ≤ b) : fracB (b - a) b = true := redO_frac (rest_eq hf h0 h1)
theorem neg_eq {a b : Int} (hf : fracB a b = true) (_h0 : 0 ≤ a) : redO (0 * b - a * 1) (1 * b) = some (-a, b) := by
  have h := fracB_of hf
  rw [Int.one_mul, Int.mul_one, Int.zero_mul, Int.zero_sub]
  refine redO_selfF (fracB_4 (inR_yes h.1 h.2.1) (inR_yes (by omega) (by omega)) ?_)
  rw [Int.neg_gcd]
  exact h.2.2.2.2
end Go.Proofs.Ytgfihfmlofgopaa
