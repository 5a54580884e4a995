/- The key of a record for some variables: plain law and the program's contract. -/
import Derived.Test.YtgeilnkglbcmeaaRKeyF
namespace Go.Proofs.Ytgeilnkglbcmeaa
open Go.RowKit

/-- The k-th number of a list, as a Nat. -/
def ix (us : List Int) (k : Nat) : Nat := (us[k]?.getD 0).toNat
/-- The key behind k of the variables us. -/
def keyN (vs : List (ByteArray × Int)) (xs us : List Int) : Nat → Int
  | 0 => 0
  | k + 1 => keyN vs xs us k * vL vs (ix us k) + xs[ix us k]?.getD 0
def keyV (vs : List (ByteArray × Int)) (xs us : List Int) : Int := keyN vs xs us us.length
/-- Schema, a record's values and key variables fit. -/
structure KeyOk (vs : List (ByteArray × Int)) (xs us : List Int) (n : Nat) : Prop where
  len : vs.length = n
  s : schB vs = true
  v : valsB vs xs = true
  r : risB us n = true
theorem KeyOk.ix_lt {vs : List (ByteArray × Int)} {xs us : List Int} {n k : Nat} (h : KeyOk vs xs us n) (hk : k < us.length) : ix us k < n ∧ us[k]?.getD 0 = (ix us k : Int) := by
  have h1 := risB_of h.r k hk
  have h2 := (schB_of h.s).1
  have h3 := h.len
  unfold ix
  omega
theorem KeyOk.at_ {vs : List (ByteArray × Int)} {xs us : List Int} {n k : Nat} (h : KeyOk vs xs us n) (hk : k < us.length) : (2 ≤ vL vs (ix us k) ∧ vL vs (ix us k) ≤ 8) ∧ 0 ≤ xs[ix us k]?.getD 0 ∧ xs[ix us k]?.getD 0 ≤ vL vs (ix us k) - 1 := by
  have h1 := (h.ix_lt hk).1
  have h3 := h.len
  exact ⟨(schB_of h.s).2 _ (by omega), (valsB_of h.v).2 _ (by omega)⟩
theorem KeyOk.six {vs : List (ByteArray × Int)} {xs us : List Int} {n : Nat} (h : KeyOk vs xs us n) : us.length ≤ 6 := by
  have h1 := risB_len h.r
  have h2 := (schB_of h.s).1
  have h3 := h.len
  omega
theorem mul_in {a L v M : Int} (h0 : 0 ≤ a) (h1 : a + 1 ≤ M) (hL : 2 ≤ L) (hL8 : L ≤ 8) (hv : 0 ≤ v) (hv2 : v ≤ L - 1) : (0 ≤ a * L ∧ a * L ≤ M * 8) ∧ 0 ≤ a * L + v ∧ a * L + v + 1 ≤ M * 8 := by
  have e1 : 0 ≤ a * L := Int.mul_nonneg h0 (by omega)
  have e2 : (a + 1) * L ≤ M * 8 := Int.mul_le_mul h1 hL8 (by omega) (by omega)
  rw [Int.add_mul] at e2
  omega
theorem KeyOk.bd {vs : List (ByteArray × Int)} {xs us : List Int} {n : Nat} (h : KeyOk vs xs us n) : ∀ k, k ≤ us.length → 0 ≤ keyN vs xs us k ∧ keyN vs xs us k + 1 ≤ 8 ^ k := by
  intro k
  induction k with
  | zero => intro _; simp [keyN]
  | succ k ih =>
    intro hk
    have h1 := ih (by omega)
    have h2 := h.at_ (show k < us.length by omega)
    have h3 := mul_in h1.1 h1.2 h2.1.1 h2.1.2 h2.2.1 h2.2.2
    simp only [keyN]
    rw [Int.pow_succ]
    exact h3.2
theorem pow8 {k : Nat} (h : k ≤ 6) : (8 : Int) ^ k ≤ 262144 := by
  have h1 : (8 : Nat) ^ k ≤ 8 ^ 6 := Nat.pow_le_pow_right (by omega) h
  have h2 : ((8 ^ k : Nat) : Int) ≤ ((8 ^ 6 : Nat) : Int) := Int.ofNat_le.2 h1
  simpa using h2
/-- What a round of the key's loop needs. -/
theorem KeyOk.step {vs : List (ByteArray × Int)} {xs us : List Int} {n k : Nat} (h : KeyOk vs xs us n) (hk : k < us.length) :
    (0 ≤ keyN vs xs us k ∧ keyN vs xs us k ≤ 262144) ∧ (0 ≤ keyN vs xs us k * vL vs (ix us k) ∧ keyN vs xs us k * vL vs (ix us k) ≤ 2097152) := by
  have h1 := h.bd k (by omega)
  have h2 := h.at_ hk
  have h3 := mul_in h1.1 h1.2 h2.1.1 h2.1.2 h2.2.1 h2.2.2
  have h4 := h.six
  have h5 := pow8 (k := k) (by omega)
  omega
theorem KeyOk.keyV_bd {vs : List (ByteArray × Int)} {xs us : List Int} {n : Nat} (h : KeyOk vs xs us n) : 0 ≤ keyV vs xs us ∧ keyV vs xs us < 262144 := by
  have h1 := h.bd us.length (Nat.le_refl _)
  have h5 := pow8 (k := us.length) h.six
  unfold keyV
  omega

set_option maxHeartbeats 1000000 in
theorem keyOf_any (A V U : Option Addr) (n c m d l k' : Nat) (x y : Int) (vs : List (ByteArray × Int)) (xs us : List Int) (w : World) (hx : SchR w A n c vs) (hy : IntR w V m xs) (hu : IntR w U l us) (hk : KeyOk vs xs us n) :
    Calls Try.prog 110 #[.slice A n c, .agg #[.int .i64 x, .int .i64 y, .slice V m d], .slice U l k'] w fun e w' => e = .returned (.int .i64 (keyV vs xs us)) ∧ Below w.heap.size w w' := by
  have hl := Lib.hid hu.len
  have hl6 : l ≤ 6 := by have := hk.six; rw [hl.out] at this; exact this
  have hm := Lib.hid (show m = n by have := (valsB_of hk.v).1; rw [hy.len, hx.len] at this; exact this)
  have b0 := below_new w (.cells #[.int .i64 x, .int .i64 y, .slice V m d] 53)
  have x0 := box_new w #[.int .i64 x, .int .i64 y, .slice V m d] 53
  have HX := Lib.hid (hx.below b0)
  have HY := Lib.hid (hy.below b0)
  have HU := Lib.hid (hu.below b0)
  clear hx hy hu
  go_enter Try.func110, Try.ntmps110
  go_wp2
  generalize w.alloc (.cells #[.int .i64 x, .int .i64 y, .slice V m d] 53) = w0 at *
  go_loopw [7, 12] (fun a i wr => ∃ j : Nat, j ≤ l ∧ i = .int .i64 j ∧ a = .int .i64 (keyN vs xs us j) ∧ Below w0.heap.size w0 wr) (fun _ i _ => l - (intOf i).toNat)
  case atStart => exact ⟨0, Nat.zero_le _, rfl, rfl, Below.refl _ _⟩
  case round =>
    obtain ⟨j, hj, rfl, rfl, hbw⟩ := hrel
    by_cases hlt : j < l
    · have hju : j < us.length := by rw [hl.out]; exact hlt
      obtain ⟨hi1, hi2⟩ := hk.ix_lt hju
      obtain ⟨hs1, hs2⟩ := hk.step hju
      have ha := hk.at_ hju
      obtain ⟨au, rfl, hcu⟩ := (HU.out.below hbw).i.at_ hlt
      obtain ⟨asv, rfl, _, hcs⟩ := (HX.out.below hbw).v.at_ hi1
      obtain ⟨av, rfl, hcv⟩ := (HY.out.below hbw).i.at_ (show ix us j < m by rw [hm.out]; exact hi1)
      rw [hi2] at hcu
      have R := Lib.hid (show keyN vs xs us j * vL vs (ix us j) + xs[ix us j]?.getD 0 = keyN vs xs us (j + 1) from rfl)
      have hc2 := (hbw.cell (p := ⟨w.heap.size, 2, none⟩) (lt_of_block x0)).trans (box_cell x0 2 (.slice (some av) m d) rfl)
      have hm' : ix us j < m := by rw [hm.out]; exact hi1
      generalize ix us j = t at *
      generalize vL vs t = L at *
      generalize xs[t]?.getD 0 = v at *
      generalize keyN vs xs us j = a at *
      have HB := Lib.hid hbw
      obtain ⟨p, hp⟩ : ∃ p, a * L = p := ⟨_, rfl⟩
      rw [hp] at hs2 R
      have hw1 : IntKind.i64.wrap (a * L) = p := by rw [hp]; exact IntWalk.i64_in _ (by omega)
      have hw2 : IntKind.i64.wrap (p + v) = p + v := IntWalk.i64_in _ (by omega)
      clear hbw hi2 hju hp
      go_wp2
      go_quiet (fail)
      clear hw1 hw2
      go_wp2
      rw [R.out]
      go_roundw
      case rel => exact ⟨j + 1, by omega, by go_num, rfl, below_drewN HB.out _⟩
      case measure => simp [intOf]; omega
    · obtain rfl : j = l := by omega
      have R := Lib.hid (show keyN vs xs us j = keyV vs xs us by unfold keyV; rw [hl.out])
      go_wp2
      go_ret
      exact ⟨ret_int R.out, b0.trans (hbw.mono b0.size)⟩
end Go.Proofs.Ytgeilnkglbcmeaa
