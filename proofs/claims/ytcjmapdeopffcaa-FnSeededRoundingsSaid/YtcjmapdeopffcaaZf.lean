/- Several small texts in one: AppV, RKey, RKeyF, Keys, Keys2. -/
import Derived.Test.YtcjmapdeopffcaaZb
import Derived.Test.YtcjmapdeopffcaaZa
import Derived.Test.YtcjmapdeopffcaaZe
namespace Go.Proofs.Ytcjmapdeopffcaa

section
open Go.RowKit

theorem vcells_snoc (vs : List (ByteArray × Int)) (s : ByteArray) (x : Int) : vcells (vs ++ [(s, x)]) = vcells vs ++ [.string s, .int .i64 x] := by
  induction vs with
  | nil => rfl
  | cons p vs ih => simp only [List.cons_append, vcells, ih]
end

section
open Go.RowKit

def rkey (sd x y : Int) (xs : List Int) : Int := dig ([5, sd, x, y] ++ xs) % 65536
theorem rkey_bd (sd x y : Int) (xs : List Int) : 0 ≤ rkey sd x y xs ∧ rkey sd x y xs < 65536 := ⟨Int.emod_nonneg _ (by omega), Int.emod_lt_of_pos _ (by omega)⟩
end

section
open Go.RowKit

def rkB (sd : Int) (vs : List (ByteArray × Int)) (x y : Int) (xs : List Int) : Bool := inR sd 0 4611686016279904236 && (schB vs && recB vs x y xs)
def rkV (sd : Int) (vs : List (ByteArray × Int)) (x y : Int) (xs : List Int) : Int := if rkB sd vs x y xs = true then rkey sd x y xs else 0
theorem rkV_no {sd x y : Int} {vs : List (ByteArray × Int)} {xs : List Int} (h : rkB sd vs x y xs = false) : rkV sd vs x y xs = 0 := by rw [rkV, if_neg (by simp [h])]
theorem rkV_yes {sd x y : Int} {vs : List (ByteArray × Int)} {xs : List Int} (h : rkB sd vs x y xs = true) : rkV sd vs x y xs = rkey sd x y xs := by rw [rkV, if_pos h]
theorem recB_vals {vs : List (ByteArray × Int)} {x y : Int} {xs : List Int} (h : recB vs x y xs = true) : valsB vs xs = true := by simp only [recB, Bool.and_eq_true] at h; exact h.2.2
theorem allR_one (a : Int) : allR [a] 0 4611686016279904236 = inR a 0 4611686016279904236 := by simp [allR]
theorem cell_later {w w' : World} {p : Addr} {v : Value} (hb : Below w.heap.size w w') (h : w.cell? p = some v) : w'.cell? p = some v := (hb.cell (block_lt_of_cell h)).trans h
end

section
open Go.RowKit

/-- The k-th number of a list, as a Nat. -/
def ix (us : List Int) (k : Nat) : Nat := (us[k]?.getD 0).toNat
/-- The key behind k of the variables us. -/
def keyN (vs : List (ByteArray × Int)) (xs us : List Int) : Nat → Int
  | 0 => 0
  | k + 1 => keyN vs xs us k * vL vs (ix us k) + xs[ix us k]?.getD 0
def keyV (vs : List (ByteArray × Int)) (xs us : List Int) : Int := keyN vs xs us us.length
/-- Schema, a record's values and key variables fit. -/
structure KeyOk (vs : List (ByteArray × Int)) (xs us : List Int) (n : Nat) : Prop where
  len : vs.length = n
  s : schB vs = true
  v : valsB vs xs = true
  r : risB us n = true
theorem KeyOk.ix_lt {vs : List (ByteArray × Int)} {xs us : List Int} {n k : Nat} (h : KeyOk vs xs us n) (hk : k < us.length) : ix us k < n ∧ us[k]?.getD 0 = (ix us k : Int) := by
  have h1 := risB_of h.r k hk
  have h2 := (schB_of h.s).1
  have h3 := h.len
  unfold ix
  omega
theorem KeyOk.at_ {vs : List (ByteArray × Int)} {xs us : List Int} {n k : Nat} (h : KeyOk vs xs us n) (hk : k < us.length) : (2 ≤ vL vs (ix us k) ∧ vL vs (ix us k) ≤ 8) ∧ 0 ≤ xs[ix us k]?.getD 0 ∧ xs[ix us k]?.getD 0 ≤ vL vs (ix us k) - 1 := by
  have h1 := (h.ix_lt hk).1
  have h3 := h.len
  exact ⟨(schB_of h.s).2 _ (by omega), (valsB_of h.v).2 _ (by omega)⟩
theorem KeyOk.six {vs : List (ByteArray × Int)} {xs us : List Int} {n : Nat} (h : KeyOk vs xs us n) : us.length ≤ 6 := by
  have h1 := risB_len h.r
  have h2 := (schB_of h.s).1
  have h3 := h.len
  omega
theorem mul_in {a L v M : Int} (h0 : 0 ≤ a) (h1 : a + 1 ≤ M) (hL : 2 ≤ L) (hL8 : L ≤ 8) (hv : 0 ≤ v) (hv2 : v ≤ L - 1) : (0 ≤ a * L ∧ a * L ≤ M * 8) ∧ 0 ≤ a * L + v ∧ a * L + v + 1 ≤ M * 8 := by
  have e1 : 0 ≤ a * L := Int.mul_nonneg h0 (by omega)
  have e2 : (a + 1) * L ≤ M * 8 := Int.mul_le_mul h1 hL8 (by omega) (by omega)
  rw [Int.add_mul] at e2
  omega
theorem KeyOk.bd {vs : List (ByteArray × Int)} {xs us : List Int} {n : Nat} (h : KeyOk vs xs us n) : ∀ k, k ≤ us.length → 0 ≤ keyN vs xs us k ∧ keyN vs xs us k + 1 ≤ 8 ^ k := by
  intro k
  induction k with
  | zero => intro _; simp [keyN]
  | succ k ih =>
    intro hk
    have h1 := ih (by omega)
    have h2 := h.at_ (show k < us.length by omega)
    have h3 := mul_in h1.1 h1.2 h2.1.1 h2.1.2 h2.2.1 h2.2.2
    simp only [keyN]
    rw [Int.pow_succ]
    exact h3.2
theorem pow8 {k : Nat} (h : k ≤ 6) : (8 : Int) ^ k ≤ 262144 := by
  have h1 : (8 : Nat) ^ k ≤ 8 ^ 6 := Nat.pow_le_pow_right (by omega) h
  have h2 : ((8 ^ k : Nat) : Int) ≤ ((8 ^ 6 : Nat) : Int) := Int.ofNat_le.2 h1
  simpa using h2
/-- What a round of the key's loop needs. -/
theorem KeyOk.step {vs : List (ByteArray × Int)} {xs us : List Int} {n k : Nat} (h : KeyOk vs xs us n) (hk : k < us.length) :
    (0 ≤ keyN vs xs us k ∧ keyN vs xs us k ≤ 262144) ∧ (0 ≤ keyN vs xs us k * vL vs (ix us k) ∧ keyN vs xs us k * vL vs (ix us k) ≤ 2097152) := by
  have h1 := h.bd k (by omega)
  have h2 := h.at_ hk
  have h3 := mul_in h1.1 h1.2 h2.1.1 h2.1.2 h2.2.1 h2.2.2
  have h4 := h.six
  have h5 := pow8 (k := k) (by omega)
  omega
theorem KeyOk.keyV_bd {vs : List (ByteArray × Int)} {xs us : List Int} {n : Nat} (h : KeyOk vs xs us n) : 0 ≤ keyV vs xs us ∧ keyV vs xs us < 262144 := by
  have h1 := h.bd us.length (Nat.le_refl _)
  have h5 := pow8 (k := us.length) h.six
  unfold keyV
  omega
end

section
open Go.RowKit

def partL (vs : List (ByteArray × Int)) (us : List Int) (k : Nat) : List (ByteArray × Int) := (List.range k).map fun i => (vN vs (ix us i), vL vs (ix us i))
def pickL (xs us : List Int) (k : Nat) : List Int := tabl k (fun i => xs[ix us i]?.getD 0)
theorem partL_len (vs : List (ByteArray × Int)) (us : List Int) (k : Nat) : (partL vs us k).length = k := by simp [partL]
theorem partL_succ (vs : List (ByteArray × Int)) (us : List Int) (k : Nat) : partL vs us (k + 1) = partL vs us k ++ [(vN vs (ix us k), vL vs (ix us k))] := by simp [partL, List.range_succ]
theorem partL_at {vs : List (ByteArray × Int)} {us : List Int} {k i : Nat} (h : i < k) : vL (partL vs us k) i = vL vs (ix us i) := by simp [partL, vL, h]
theorem pickL_at {xs us : List Int} {k i : Nat} (h : i < k) : (pickL xs us k)[i]?.getD 0 = xs[ix us i]?.getD 0 := tabl_at h
def prodN (vs : List (ByteArray × Int)) (us : List Int) : Nat → Int
  | 0 => 1
  | k + 1 => prodN vs us k * vL vs (ix us k)
theorem mul_pos8 {a L M : Int} (h0 : 1 ≤ a) (h1 : a ≤ M) (hL : 2 ≤ L) (hL8 : L ≤ 8) : 1 ≤ a * L ∧ a * L ≤ M * 8 := by
  have e1 : a * L ≤ M * 8 := Int.mul_le_mul h1 hL8 (by omega) (by omega)
  have e2 : 1 * 1 ≤ a * L := Int.mul_le_mul h0 (by omega) (by omega) (by omega)
  omega
structure PartOk (vs : List (ByteArray × Int)) (us : List Int) (n : Nat) : Prop where
  len : vs.length = n
  s : schB vs = true
  r : risB us n = true
section
variable {vs : List (ByteArray × Int)} {xs us : List Int} {n k : Nat}
theorem KeyOk.part (h : KeyOk vs xs us n) : PartOk vs us n := ⟨h.len, h.s, h.r⟩
theorem PartOk.ix_lt (h : PartOk vs us n) (hk : k < us.length) : ix us k < n ∧ us[k]?.getD 0 = (ix us k : Int) := by
  have h1 := risB_of h.r k hk
  have h2 := (schB_of h.s).1
  have h3 := h.len
  unfold ix
  omega
theorem PartOk.six (h : PartOk vs us n) : us.length ≤ 6 := by
  have h1 := risB_len h.r
  have h2 := (schB_of h.s).1
  have h3 := h.len
  omega
theorem PartOk.at_ (h : PartOk vs us n) (hk : k < us.length) : 2 ≤ vL vs (ix us k) ∧ vL vs (ix us k) ≤ 8 := by
  have h1 := (h.ix_lt hk).1
  have h3 := h.len
  exact (schB_of h.s).2 _ (by omega)
theorem PartOk.bd (h : PartOk vs us n) : ∀ k, k ≤ us.length → 1 ≤ prodN vs us k ∧ prodN vs us k ≤ 8 ^ k := by
  intro k
  induction k with
  | zero => intro _; simp [prodN]
  | succ k ih =>
    intro hk
    have h1 := ih (by omega)
    have h2 := h.at_ (show k < us.length by omega)
    simp only [prodN]
    rw [Int.pow_succ]
    exact mul_pos8 h1.1 h1.2 h2.1 h2.2
theorem PartOk.step (h : PartOk vs us n) (hk : k < us.length) : (1 ≤ prodN vs us k ∧ prodN vs us k ≤ 262144) ∧ (1 ≤ prodN vs us k * vL vs (ix us k) ∧ prodN vs us k * vL vs (ix us k) ≤ 2097152) := by
  have h1 := h.bd k (by omega)
  have h4 := h.six
  have h5 := pow8 (k := k) (by omega)
  have h2 := h.at_ hk
  have h3 := mul_pos8 (M := 262144) h1.1 (by omega) h2.1 h2.2
  omega
theorem PartOk.prod (h : PartOk vs us n) : 1 ≤ prodN vs us us.length ∧ prodN vs us us.length ≤ 262144 := by
  have h1 := h.bd us.length (Nat.le_refl _)
  have h5 := pow8 (k := us.length) h.six
  omega
/-- A key lies below the count of keys. -/
theorem KeyOk.lt_prod (h : KeyOk vs xs us n) : ∀ k, k ≤ us.length → keyN vs xs us k + 1 ≤ prodN vs us k := by
  intro k
  induction k with
  | zero => intro _; simp [keyN, prodN]
  | succ k ih =>
    intro hk
    have h1 := ih (by omega)
    have h2 := h.at_ (show k < us.length by omega)
    have e : (keyN vs xs us k + 1) * vL vs (ix us k) ≤ prodN vs us k * vL vs (ix us k) := Int.mul_le_mul_of_nonneg_right h1 (by omega)
    rw [Int.add_mul] at e
    simp only [keyN, prodN]
    omega
end
end
end Go.Proofs.Ytcjmapdeopffcaa
