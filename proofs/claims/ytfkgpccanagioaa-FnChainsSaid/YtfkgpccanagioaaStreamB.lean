/- Streams: IsStream and BitAt, of the reference and of the program; structs of two ints. -/
import Derived.Test.YtfkgpccanagioaaSeal
import Derived.Test.YtfkgpccanagioaaAppend
namespace Go.Proofs.Ytfkgpccanagioaa
open Go.RowKit

/-- A stream is valid. -/
def streamB (a b : Int) : Bool := inR a 0 4611686016279904236 && inR b 0 1000000
theorem streamB_1 {a b : Int} (h : inR a 0 4611686016279904236 = false) : streamB a b = false := by simp [streamB, h]
theorem streamB_2 {a b : Int} (h : inR a 0 4611686016279904236 = true) : inR b 0 1000000 = streamB a b := by simp [streamB, h]
theorem allR_one (a lo hi : Int) : allR [a] lo hi = inR a lo hi := by simp [allR]

/-- The bit of a seed at a position. -/
def bitV (a i : Int) : Int := (dig [a, i / 30] / 2 ^ (31 + i % 30).toNat) % 2
theorem bitV_bd (a i : Int) : 0 ≤ bitV a i ∧ bitV a i ≤ 1 := by unfold bitV; omega
theorem and_one (x : Int) (h0 : 0 ≤ x) (h1 : x < 9223372036854775808) : bits .and .i64 x 1 = x % 2 := by
  obtain ⟨n, rfl⟩ := Int.eq_ofNat_of_zero_le h0
  show IntKind.i64.wrap ((BitVec.ofInt 64 (n : Int) &&& BitVec.ofInt 64 1).toNat : Int) = _
  rw [BitVec.toNat_and, BitVec.ofInt_natCast, BitVec.toNat_ofNat, Nat.mod_eq_of_lt (by omega), show (BitVec.ofInt 64 1).toNat = 1 from rfl, Nat.and_one_is_mod, IntKind.wrap_i64]
  omega
theorem bitV_in (a i d : Int) (h : dig [a, i / 30] = d) (h0 : 0 ≤ d) (h1 : d ≤ 4611686016279904236) : bits .and .i64 (d / 2 ^ (31 + i % 30).toNat) 1 = bitV a i := by
  have hp : (0 : Int) < 2 ^ (31 + i % 30).toNat := Int.pow_pos (by omega)
  have h2 : d / 2 ^ (31 + i % 30).toNat ≤ d := Int.ediv_le_self _ h0
  rw [and_one _ (Int.ediv_nonneg h0 (by omega)) (by omega), bitV, h]

/-- What BitAt returns. -/
def bitB (a i : Int) : Bool := inR a 0 4611686016279904236 && inR i 0 999999
def bitR (a i : Int) : Int := if bitB a i = true then bitV a i else 0
theorem bitR_yes {a i : Int} (h : bitB a i = true) : bitR a i = bitV a i := by simp [bitR, h]
theorem bitR_no {a i : Int} (h : bitB a i = false) : bitR a i = 0 := by simp [bitR, h]
theorem bitB_1 {a i : Int} (h : inR a 0 4611686016279904236 = false) : bitB a i = false := by simp [bitB, h]
theorem bitB_2 {a i : Int} (h : inR a 0 4611686016279904236 = true) : inR i 0 999999 = bitB a i := by simp [bitB, h]
theorem bitB_of {a i : Int} (h : bitB a i = true) : 0 ≤ i ∧ i < 1000000 := by
  simp only [bitB, Bool.and_eq_true] at h
  have := inR_of h.2
  omega

end Go.Proofs.Ytfkgpccanagioaa
