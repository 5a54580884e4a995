/- The members of a small set of bits; lists compared; of the program and of the reference. -/
import Derived.Test.YtfanpbfmnckmnaaGreatClass
namespace Go.Proofs.YtfanpbfmnckmnaaGreat
open Go.RowKit

theorem and_1 (x : Int) (h0 : 0 ≤ x) (h1 : x < 9223372036854775808) : bits .and .i64 x 1 = x % 2 := by
  obtain ⟨n, rfl⟩ := Int.eq_ofNat_of_zero_le h0
  show IntKind.i64.wrap ((BitVec.ofInt 64 (n : Int) &&& BitVec.ofInt 64 1).toNat : Int) = _
  rw [BitVec.toNat_and, BitVec.ofInt_natCast, BitVec.toNat_ofNat, Nat.mod_eq_of_lt (by omega), show (BitVec.ofInt 64 1).toNat = 1 from rfl, Nat.and_one_is_mod, IntKind.wrap_i64]
  omega
def memP (x : Int) (t : Nat) : Bool := decide (x / 2 ^ t % 2 = 1)
theorem div_pow {x : Int} (h0 : 0 ≤ x) (t : Nat) : 0 ≤ x / 2 ^ t ∧ x / 2 ^ t ≤ x := by
  have hp : (0 : Int) < 2 ^ t := Int.pow_pos (by omega)
  exact ⟨Int.ediv_nonneg h0 (by omega), Int.ediv_le_self _ h0⟩

/-- A list has a number. -/
def hasB (xs : List Int) (v : Int) : Bool := !allTo (fun i => decide (xs[i]?.getD 0 ≠ v)) xs.length
theorem hasB_yes {xs : List Int} {v : Int} {n k : Nat} (hl : xs.length = n) (hk : k < n) (h : xs[k]?.getD 0 = v) : hasB xs v = true := by
  unfold hasB; rw [allTo_no (i := k) (by omega) (by simp [h])]; rfl
theorem hasB_no {xs : List Int} {v : Int} {n : Nat} (hl : xs.length = n) (h : ∀ k, k < n → xs[k]?.getD 0 ≠ v) : hasB xs v = false := by
  unfold hasB; rw [allTo_yes (fun i hi => by simpa using h i (by omega))]; rfl

set_option maxHeartbeats 1000000 in
theorem l1Has_any (A : Option Addr) (n c : Nat) (v : Int) (xs : List Int) (w : World) (hx : IntR w A n xs) :
    Calls Tryz.prog 162 #[.slice A n c, .int .i64 v] w fun e w' => e = .returned (.bool (hasB xs v)) ∧ w = w' := by
  have hn := hx.bd
  have hl := Lib.hid hx.len
  go_enter Tryz.func162, Tryz.ntmps162
  go_wp2
  go_loop [9] (fun i => ∃ k : Nat, k ≤ n ∧ i = .int .i64 k ∧ Hid (∀ t, t < k → xs[t]?.getD 0 ≠ v)) (fun i => n - (intOf i).toNat)
  case atStart => exact ⟨0, Nat.zero_le _, rfl, Lib.hid fun t ht => absurd ht (by omega)⟩
  case round =>
    obtain ⟨k, hk, rfl, he⟩ := hrel
    by_cases hlt : k < n
    · obtain ⟨ad, rfl, hc⟩ := hx.i.at_ hlt
      have Y := Lib.hid (hasB_yes (v := v) hl.out hlt)
      have E := Lib.hid (fun h => all_succ (p := fun t => xs[t]?.getD 0 ≠ v) he.out h)
      clear hx
      generalize xs[k]?.getD 0 = x at *
      by_cases h1 : x = v
      · have R := Lib.hid (Y.out h1).symm
        have hq : (x == v) = true := by simp [h1]
        clear h1
        go_wp2
        go_ret
        exact ⟨ret_bool R.out, rfl⟩
      · have R := Lib.hid (E.out h1)
        have hq : (x == v) = false := by simp [h1]
        clear h1
        go_wp2
        go_round
        case rel => exact ⟨k + 1, by omega, by go_num, R⟩
        case measure => simp [intOf]; omega
    · obtain rfl : k = n := by omega
      have R := Lib.hid (hasB_no hl.out he.out).symm
      clear hx
      go_wp2
      go_ret
      exact ⟨ret_bool R.out, rfl⟩

set_option maxHeartbeats 1000000 in
theorem slIndex_any (A : Option Addr) (n c : Nat) (v : Int) (xs : List Int) (w : World) (hx : IntR w A n xs) :
    Calls Tryz.prog 198 #[.slice A n c, .int .i64 v] w fun e w' => (∃ r : Int, e = .returned (.int .i64 r) ∧ (0 ≤ r ↔ hasB xs v = true)) ∧ w = w' := by
  have hn := hx.bd
  have hl := Lib.hid hx.len
  go_enter Tryz.func198, Tryz.ntmps198
  go_wp2
  go_loop [8] (fun i => ∃ k : Nat, k ≤ n ∧ i = .int .i64 k ∧ Hid (∀ t, t < k → xs[t]?.getD 0 ≠ v)) (fun i => n - (intOf i).toNat)
  case atStart => exact ⟨0, Nat.zero_le _, rfl, Lib.hid fun t ht => absurd ht (by omega)⟩
  case round =>
    obtain ⟨k, hk, rfl, he⟩ := hrel
    by_cases hlt : k < n
    · obtain ⟨ad, rfl, hc⟩ := hx.i.at_ hlt
      have Y := Lib.hid (hasB_yes (v := v) hl.out hlt)
      have E := Lib.hid (fun h => all_succ (p := fun t => xs[t]?.getD 0 ≠ v) he.out h)
      clear hx
      generalize xs[k]?.getD 0 = x at *
      by_cases h1 : x = v
      · have R := Lib.hid (Y.out h1)
        have hq : (v == x) = true := by simp [h1]
        clear h1
        go_wp2
        go_ret
        exact ⟨⟨_, rfl, ⟨fun _ => R.out, fun _ => by omega⟩⟩, rfl⟩
      · have R := Lib.hid (E.out h1)
        have hq : (v == x) = false := by simp [Ne.symm h1]
        clear h1
        go_wp2
        go_round
        case rel => exact ⟨k + 1, by omega, by go_num, R⟩
        case measure => simp [intOf]; omega
    · obtain rfl : k = n := by omega
      have R := Lib.hid (hasB_no hl.out he.out)
      clear hx
      go_wp2
      go_ret
      exact ⟨⟨_, rfl, ⟨fun h => absurd h (by omega), fun h => by rw [R.out] at h; cases h⟩⟩, rfl⟩

set_option maxHeartbeats 1000000 in
theorem contains_any (A : Option Addr) (n c : Nat) (v : Int) (xs : List Int) (w : World) (hx : IntR w A n xs) :
    Calls Tryz.prog 166 #[.slice A n c, .int .i64 v] w fun e w' => e = .returned (.bool (hasB xs v)) ∧ w = w' := by
  go_enter Tryz.func166, Tryz.ntmps166
  go_wp2_with fail
  refine (slIndex_any _ n _ v xs _ hx).mono ?_
  rintro e w1 ⟨⟨r, rfl, hr⟩, rfl⟩
  have R := Lib.hid (show decide (0 ≤ r) = hasB xs v by
    cases h : hasB xs v
    · exact decide_eq_false (fun h' => by rw [hr.1 h'] at h; cases h)
    · exact decide_eq_true (hr.2 h))
  clear hr hx
  go_wp2
  go_ret
  exact ⟨ret_bool R.out, rfl⟩
end Go.Proofs.YtfanpbfmnckmnaaGreat
