/- Streams: IsStream and BitAt, of the reference and of the program; structs of two ints. -/
import Derived.Test.YtfkdmddfadkjoaaSeal
import Derived.Test.YtfkdmddfadkjoaaAppend
namespace Go.Proofs.Ytfkdmddfadkjoaa
open Go.RowKit

set_option maxHeartbeats 400000 in
theorem toStream_any (a b : Int) (w : World) :
    Calls Try.prog 21 #[.agg #[.int .i64 a, .int .i64 b]] w fun e w' => e = .returned (.agg #[.int .i64 a, .int .i64 b]) ∧ Below w.heap.size w w' := by
  go_enter Try.func21, Try.ntmps21
  go_wp2
  refine bodyPost_ret (v := .agg #[.int .i64 a, .int .i64 b]) (by simp [results, Try.results21, go_sem]) rfl ⟨rfl, ?_⟩
  exact (((Below.refl _ _).alloc (Nat.le_refl _) _).alloc (by simp) _).alloc (by simp; omega) _

/-- A stream is valid. -/
def streamB (a b : Int) : Bool := inR a 0 4611686016279904236 && inR b 0 1000000
theorem streamB_1 {a b : Int} (h : inR a 0 4611686016279904236 = false) : streamB a b = false := by simp [streamB, h]
theorem streamB_2 {a b : Int} (h : inR a 0 4611686016279904236 = true) : inR b 0 1000000 = streamB a b := by simp [streamB, h]
theorem allR_one (a lo hi : Int) : allR [a] lo hi = inR a lo hi := by simp [allR]

set_option maxHeartbeats 400000 in
theorem kGood_any (a b : Int) (w : World) :
    Calls Try.prog 92 #[.agg #[.int .i64 a, .int .i64 b]] w fun e w' => e = .returned (.bool (streamB a b)) ∧ Below w.heap.size w w' := by
  go_enter Try.func92, Try.ntmps92
  go_wp2_with fail
  refine (hDigest_any _ _ _ [a] _ (ints_one (by simp)) (by omega)).mono ?_
  rintro e w' ⟨rfl, rfl⟩
  rw [allR_one]
  cases hA : inR a 0 4611686016279904236
  · have R := Lib.hid (streamB_1 (b := b) hA)
    clear hA
    go_wp2
    go_ret
    exact ⟨ret_bool R.out.symm, (below_new _ _).trans ((below_new _ _).mono (by simp))⟩
  · have R := Lib.hid (streamB_2 (b := b) hA)
    clear hA
    go_wp2_with fail
    refine (l1In_any _ _ _ _).mono ?_
    rintro e w' ⟨rfl, rfl⟩
    rw [R.out]
    go_wp2
    go_ret
    exact ⟨rfl, (below_new _ _).trans ((below_new _ _).mono (by simp))⟩

set_option maxHeartbeats 400000 in
theorem implIsStream_any (a b : Int) (w : World) :
    Calls Try.prog 30 #[.agg #[.int .i64 a, .int .i64 b]] w fun e w' => e = .returned (.bool (streamB a b)) ∧ Below w.heap.size w w' := by
  go_enter Try.func30, Try.ntmps30
  go_wp2_with fail
  refine (isSeed_any _ _).mono ?_
  rintro e w' ⟨rfl, rfl⟩
  cases hA : inR a 0 4611686016279904236
  · have R := Lib.hid (streamB_1 (b := b) hA)
    clear hA
    go_wp2
    go_ret
    exact ⟨ret_bool R.out.symm, below_new _ _⟩
  · have R := Lib.hid (streamB_2 (b := b) hA)
    clear hA
    by_cases h1 : 0 ≤ b
    · by_cases h2 : b ≤ 1000000
      · have R2 := Lib.hid (inR_yes h1 h2)
        go_wp2
        go_ret
        exact ⟨ret_bool (by rw [← R.out, R2.out]), below_new _ _⟩
      · have R2 := Lib.hid (inR_no (lo := 0) (fun h => h2 h.2))
        go_wp2
        go_ret
        exact ⟨ret_bool (by rw [← R.out, R2.out]; exact decide_eq_false (by omega)), below_new _ _⟩
    · have R2 := Lib.hid (inR_no (hi := 1000000) (fun h => h1 h.1))
      go_wp2
      go_ret
      exact ⟨ret_bool (by rw [← R.out, R2.out]), below_new _ _⟩

/-- The bit of a seed at a position. -/
def bitV (a i : Int) : Int := (dig [a, i / 30] / 2 ^ (31 + i % 30).toNat) % 2
theorem bitV_bd (a i : Int) : 0 ≤ bitV a i ∧ bitV a i ≤ 1 := by unfold bitV; omega
theorem and_one (x : Int) (h0 : 0 ≤ x) (h1 : x < 9223372036854775808) : bits .and .i64 x 1 = x % 2 := by
  obtain ⟨n, rfl⟩ := Int.eq_ofNat_of_zero_le h0
  show IntKind.i64.wrap ((BitVec.ofInt 64 (n : Int) &&& BitVec.ofInt 64 1).toNat : Int) = _
  rw [BitVec.toNat_and, BitVec.ofInt_natCast, BitVec.toNat_ofNat, Nat.mod_eq_of_lt (by omega), show (BitVec.ofInt 64 1).toNat = 1 from rfl, Nat.and_one_is_mod, IntKind.wrap_i64]
  omega
theorem bitV_in (a i d : Int) (h : dig [a, i / 30] = d) (h0 : 0 ≤ d) (h1 : d ≤ 4611686016279904236) : bits .and .i64 (d / 2 ^ (31 + i % 30).toNat) 1 = bitV a i := by
  have hp : (0 : Int) < 2 ^ (31 + i % 30).toNat := Int.pow_pos (by omega)
  have h2 : d / 2 ^ (31 + i % 30).toNat ≤ d := Int.ediv_le_self _ h0
  rw [and_one _ (Int.ediv_nonneg h0 (by omega)) (by omega), bitV, h]

set_option maxHeartbeats 400000 in
theorem kBit_any (a i : Int) (w : World) (hi : 0 ≤ i) (hi2 : i < 1000000) :
    Calls Try.prog 146 #[.int .i64 a, .int .i64 i] w fun e w' => e = .returned (.int .i64 (bitV a i)) ∧ Below w.heap.size w w' := by
  go_enter Try.func146, Try.ntmps146
  go_wp2_with fail
  refine (hInts_any _ _ _ [a, i / 30] _ (own_new w [a, i / 30] 2 rfl (by omega)).ints (by omega)).mono ?_
  rintro e w' ⟨rfl, rfl⟩
  have hd := dig_bd [a, i / 30] (by simp)
  have E := Lib.hid (bitV_in a i)
  generalize dig [a, i / 30] = d at *
  have E2 := Lib.hid (E.out d rfl hd.1 hd.2)
  go_wp2
  go_ret
  exact ⟨ret_int E2.out, below_new _ _⟩

set_option maxHeartbeats 400000 in
theorem bitAt_any (a i : Int) (w : World) (hi : 0 ≤ i) (hi2 : i < 1000000) :
    Calls Try.prog 101 #[.int .i64 a, .int .i64 i] w fun e w' => e = .returned (.int .i64 (bitV a i)) ∧ Below w.heap.size w w' := by
  go_enter Try.func101, Try.ntmps101
  go_wp2_with fail
  refine (digest_any _ _ _ [a, i / 30] _ (own_new w [a, i / 30] 2 rfl (by omega)).ints (by omega)).mono ?_
  rintro e w' ⟨rfl, rfl⟩
  have hd := dig_bd [a, i / 30] (by simp)
  have E := Lib.hid (bitV_in a i)
  generalize dig [a, i / 30] = d at *
  have E2 := Lib.hid (E.out d rfl hd.1 hd.2)
  go_wp2
  go_ret
  exact ⟨ret_int E2.out, below_new _ _⟩

/-- What BitAt returns. -/
def bitB (a i : Int) : Bool := inR a 0 4611686016279904236 && inR i 0 999999
def bitR (a i : Int) : Int := if bitB a i = true then bitV a i else 0
theorem bitR_yes {a i : Int} (h : bitB a i = true) : bitR a i = bitV a i := by simp [bitR, h]
theorem bitR_no {a i : Int} (h : bitB a i = false) : bitR a i = 0 := by simp [bitR, h]
theorem bitB_1 {a i : Int} (h : inR a 0 4611686016279904236 = false) : bitB a i = false := by simp [bitB, h]
theorem bitB_2 {a i : Int} (h : inR a 0 4611686016279904236 = true) : inR i 0 999999 = bitB a i := by simp [bitB, h]
theorem bitB_of {a i : Int} (h : bitB a i = true) : 0 ≤ i ∧ i < 1000000 := by
  simp only [bitB, Bool.and_eq_true] at h
  have := inR_of h.2
  omega

set_option maxHeartbeats 400000 in
theorem implBitAt_any (a i : Int) (w : World) :
    Calls Try.prog 35 #[.int .i64 a, .int .i64 i] w fun e w' => e = .returned (.tuple #[.int .i64 (bitR a i), .bool (bitB a i)]) ∧ Below w.heap.size w w' := by
  go_enter Try.func35, Try.ntmps35
  go_wp2_with fail
  refine (isSeed_any _ _).mono ?_
  rintro e w' ⟨rfl, rfl⟩
  cases hA : inR a 0 4611686016279904236
  · have RB := Lib.hid (bitB_1 (i := i) hA)
    have R := Lib.hid (bitR_no RB.out)
    clear hA
    go_wp2
    go_ret2
    exact ⟨ret_two R.out.symm RB.out.symm, Below.refl _ _⟩
  · have R := Lib.hid (bitB_2 (i := i) hA)
    clear hA
    by_cases h1 : 0 ≤ i
    · by_cases h2 : i < 1000000
      · have RB := Lib.hid (show bitB a i = true by rw [← R.out]; exact inR_yes h1 (by omega))
        have R2 := Lib.hid (bitR_yes RB.out)
        go_wp2_with fail
        refine (bitAt_any _ _ _ (by omega) (by omega)).mono ?_
        rintro e w1 ⟨rfl, hb⟩
        go_wp2
        go_ret2
        exact ⟨ret_two R2.out.symm RB.out.symm, hb⟩
      · have RB := Lib.hid (show bitB a i = false by rw [← R.out]; exact inR_no (by omega))
        have R2 := Lib.hid (bitR_no RB.out)
        go_wp2
        go_ret2
        exact ⟨ret_two R2.out.symm RB.out.symm, Below.refl _ _⟩
    · have RB := Lib.hid (show bitB a i = false by rw [← R.out]; exact inR_no (by omega))
      have R2 := Lib.hid (bitR_no RB.out)
      go_wp2
      go_ret2
      exact ⟨ret_two R2.out.symm RB.out.symm, Below.refl _ _⟩
end Go.Proofs.Ytfkdmddfadkjoaa
