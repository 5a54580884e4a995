/- Several small texts in one: Data, Data2, Data3. -/
import Derived.Test.YtcjmapdeopffcaaZd
namespace Go.Proofs.Ytcjmapdeopffcaa

section
open Go.RowKit

def valsB (vs : List (ByteArray × Int)) (xs : List Int) : Bool := decide (xs.length = vs.length) && allTo (fun i => inR (xs[i]?.getD 0) 0 (vL vs i - 1)) vs.length
theorem valsB_len {vs : List (ByteArray × Int)} {xs : List Int} (h : xs.length ≠ vs.length) : valsB vs xs = false := by simp [valsB, h]
theorem valsB_no {vs : List (ByteArray × Int)} {xs : List Int} {n k : Nat} (hl : vs.length = n) (hk : k < n) (h : ¬ (0 ≤ xs[k]?.getD 0 ∧ xs[k]?.getD 0 ≤ vL vs k - 1)) : valsB vs xs = false := by
  unfold valsB; rw [allTo_no (i := k) (by omega) (inR_no h), Bool.and_false]
theorem valsB_yes {vs : List (ByteArray × Int)} {xs : List Int} {n : Nat} (hl : vs.length = n) (hx : xs.length = n) (h : ∀ i, i < n → 0 ≤ xs[i]?.getD 0 ∧ xs[i]?.getD 0 ≤ vL vs i - 1) : valsB vs xs = true := by
  unfold valsB
  rw [allTo_yes (fun i hi => inR_yes (h i (by omega)).1 (h i (by omega)).2), decide_eq_true (by omega)]; rfl
theorem valsB_of {vs : List (ByteArray × Int)} {xs : List Int} (h : valsB vs xs = true) : xs.length = vs.length ∧ ∀ i, i < vs.length → 0 ≤ xs[i]?.getD 0 ∧ xs[i]?.getD 0 ≤ vL vs i - 1 := by
  simp only [valsB, Bool.and_eq_true, decide_eq_true_eq] at h
  exact ⟨h.1, fun i hi => inR_of (allTo_of h.2 i hi)⟩

/-- A record fits a schema. -/
def recB (vs : List (ByteArray × Int)) (x y : Int) (xs : List Int) : Bool := inR x 0 29 && (inR y 0 999 && valsB vs xs)
end

section
open Go.RowKit

/-- A schema, data, a list of ints as an argument. -/
structure SchR (w : World) (A : Option Addr) (n c : Nat) (vs : List (ByteArray × Int)) : Prop where
  v : VarsR w A n vs
  s : ∀ j, j < n → (vN vs j).size ≤ 1099511627776
  bd : n ≤ 1099511627776
  cp : n ≤ c
structure DatR (w : World) (A : Option Addr) (n : Nat) (rs : List RecD) : Prop where
  r : RecsR w A n rs
  s : ∀ j, j < n → (rV rs j).length ≤ 1099511627776
  bd : n ≤ 1099511627776
structure IntR (w : World) (A : Option Addr) (n : Nat) (xs : List Int) : Prop where
  i : Ints w A n xs
  bd : n ≤ 1099511627776
section
variable {w w' : World} {A : Option Addr} {n c : Nat} {vs : List (ByteArray × Int)} {rs : List RecD} {xs : List Int}
theorem SchR.below (h : SchR w A n c vs) (hb : Below w.heap.size w w') : SchR w' A n c vs := ⟨h.v.below hb, h.s, h.bd, h.cp⟩
theorem DatR.below (h : DatR w A n rs) (hb : Below w.heap.size w w') : DatR w' A n rs := ⟨h.r.below hb, h.s, h.bd⟩
theorem IntR.below (h : IntR w A n xs) (hb : Below w.heap.size w w') : IntR w' A n xs := ⟨h.i.below hb, h.bd⟩
theorem SchR.len (h : SchR w A n c vs) : vs.length = n := h.v.1
theorem DatR.len (h : DatR w A n rs) : rs.length = n := h.r.1
theorem IntR.len (h : IntR w A n xs) : xs.length = n := h.i.1
theorem SchR.lev (h : SchR w A n c vs) (hs : schB vs = true) : ∀ j, j < n → 2 ≤ vL vs j ∧ vL vs j ≤ 8 := fun j hj => (schB_of hs).2 j (by rw [h.len]; exact hj)
theorem SchR.six (h : SchR w A n c vs) (hs : schB vs = true) : 1 ≤ n ∧ n ≤ 6 := by have := (schB_of hs).1; rw [h.len] at this; exact this
theorem OwnI.intR {lo hi : Nat} (h : OwnI w lo hi A n c xs) : IntR w A n xs := ⟨h.ints, h.small⟩
end

def recOk (vs : List (ByteArray × Int)) (rs : List RecD) (i : Nat) : Bool := recB vs (rA rs i) (rH rs i) (rV rs i)
def dataB (vs : List (ByteArray × Int)) (rs : List RecD) : Bool := decide (rs.length ≤ 40) && allTo (recOk vs rs) rs.length
theorem dataB_len {vs : List (ByteArray × Int)} {rs : List RecD} (h : ¬ rs.length ≤ 40) : dataB vs rs = false := by simp [dataB, h]
theorem dataB_no {vs : List (ByteArray × Int)} {rs : List RecD} {n k : Nat} (hl : rs.length = n) (hk : k < n) (h : recOk vs rs k = false) : dataB vs rs = false := by
  unfold dataB; rw [allTo_no (i := k) (by omega) h, Bool.and_false]
theorem dataB_eq {vs : List (ByteArray × Int)} {rs : List RecD} {n : Nat} (hl : rs.length = n) (h : ∀ i, i < n → recOk vs rs i = true) : dataB vs rs = decide (n ≤ 40) := by
  unfold dataB; rw [allTo_yes (by rw [hl]; exact h), Bool.and_true, hl]
theorem dataB_of {vs : List (ByteArray × Int)} {rs : List RecD} (h : dataB vs rs = true) : rs.length ≤ 40 ∧ ∀ i, i < rs.length → recOk vs rs i = true := by
  simp only [dataB, Bool.and_eq_true, decide_eq_true_eq] at h
  exact ⟨h.1, allTo_of h.2⟩

theorem all_succ {p : Nat → Prop} {k : Nat} (h : ∀ t, t < k → p t) (hk : p k) : ∀ t, t < k + 1 → p t := fun t ht => by
  rcases Nat.lt_or_ge t k with h' | h'
  · exact h t h'
  · obtain rfl : t = k := by omega
    exact hk

/-- A list of variables' numbers below n, rising. -/
def risOk (xs : List Int) (n : Nat) (i : Nat) : Bool := inR (xs[i]?.getD 0) 0 ((n : Int) - 1) && (decide (i = 0) || decide (xs[i - 1]?.getD 0 < xs[i]?.getD 0))
def risB (xs : List Int) (n : Nat) : Bool := allTo (risOk xs n) xs.length
theorem risOk_yes {xs : List Int} {n i : Nat} (h1 : 0 ≤ xs[i]?.getD 0) (h2 : xs[i]?.getD 0 ≤ (n : Int) - 1) (h3 : 0 < i → xs[i - 1]?.getD 0 < xs[i]?.getD 0) : risOk xs n i = true := by
  unfold risOk
  rw [inR_yes h1 h2]
  rcases Nat.eq_zero_or_pos i with h | h
  · simp [h]
  · simp [h3 h]
theorem risOk_no {xs : List Int} {n i : Nat} (h : ¬ (0 ≤ xs[i]?.getD 0 ∧ xs[i]?.getD 0 ≤ (n : Int) - 1)) : risOk xs n i = false := by
  unfold risOk; rw [inR_no h]; rfl
theorem risOk_no2 {xs : List Int} {n i : Nat} (h0 : 0 < i) (h : ¬ xs[i - 1]?.getD 0 < xs[i]?.getD 0) : risOk xs n i = false := by
  unfold risOk; rw [decide_eq_false h, decide_eq_false (by omega)]; simp
theorem risB_no {xs : List Int} {n m k : Nat} (hl : xs.length = m) (hk : k < m) (h : risOk xs n k = false) : risB xs n = false := allTo_no (i := k) (by omega) h
theorem risB_of {xs : List Int} {n : Nat} (h : risB xs n = true) : ∀ i, i < xs.length → 0 ≤ xs[i]?.getD 0 ∧ xs[i]?.getD 0 ≤ (n : Int) - 1 := fun i hi => by
  have := allTo_of h i hi
  simp only [risOk, Bool.and_eq_true] at this
  exact inR_of this.1
theorem risB_lt {xs : List Int} {n : Nat} (h : risB xs n = true) {i : Nat} (h0 : 0 < i) (hi : i < xs.length) : xs[i - 1]?.getD 0 < xs[i]?.getD 0 := by
  have := allTo_of h i hi
  simp only [risOk, Bool.and_eq_true, Bool.or_eq_true, decide_eq_true_eq] at this
  rcases this.2 with h1 | h1
  · omega
  · exact h1
theorem risB_ge {xs : List Int} {n : Nat} (h : risB xs n = true) : ∀ i, i < xs.length → (i : Int) ≤ xs[i]?.getD 0 := by
  intro i
  induction i with
  | zero => intro hi; have := risB_of h 0 hi; omega
  | succ i ih => intro hi; have := ih (by omega); have := risB_lt h (i := i + 1) (by omega) hi; simp only [Nat.add_sub_cancel] at this; omega
theorem risB_len {xs : List Int} {n : Nat} (h : risB xs n = true) : xs.length ≤ n := by
  rcases Nat.eq_zero_or_pos xs.length with h0 | h0
  · omega
  · have h1 := risB_ge h (xs.length - 1) (by omega)
    have h2 := risB_of h (xs.length - 1) (by omega)
    omega
end

section
open Go.RowKit

/-- Schema, data and key variables are valid. -/
def keyedB (vs : List (ByteArray × Int)) (rs : List RecD) (xs : List Int) : Bool := schB vs && (dataB vs rs && risB xs vs.length)
def swB (vs : List (ByteArray × Int)) (xs : List Int) (n : Nat) : Bool := schB vs && risB xs n
def dinB (vs : List (ByteArray × Int)) (rs : List RecD) : Bool := schB vs && dataB vs rs
def linkedB (vs : List (ByteArray × Int)) (rs qs : List RecD) (xs : List Int) : Bool := keyedB vs rs xs && dataB vs qs
theorem keyedB_sw {vs : List (ByteArray × Int)} {rs : List RecD} {xs : List Int} {n : Nat} (h : vs.length = n) : keyedB vs rs xs = (swB vs xs n && dataB vs rs) := by
  unfold keyedB swB; rw [h]; cases schB vs <;> cases dataB vs rs <;> cases risB xs n <;> rfl

theorem and_left {a b : Bool} (h : (a && b) = true) : a = true := by cases a <;> simp_all
theorem keyedB_sch {vs : List (ByteArray × Int)} {rs : List RecD} {xs : List Int} (h : keyedB vs rs xs = true) : schB vs = true := and_left h
end
end Go.Proofs.Ytcjmapdeopffcaa
