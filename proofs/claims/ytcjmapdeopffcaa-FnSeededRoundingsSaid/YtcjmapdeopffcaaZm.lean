/- Several small texts in one: StreamB, BitLen, Read, Below, KBelow. -/
import Derived.Test.YtcjmapdeopffcaaYw
import Derived.Test.YtcjmapdeopffcaaZa
import Derived.Shelf.Small.Bits
import Derived.Test.YtcjmapdeopffcaaRows
import Derived.Test.YtcjmapdeopffcaaZc
import Derived.Deep.RegionHeld3
namespace Go.Proofs.Ytcjmapdeopffcaa

section
open Go.RowKit

/-- A stream is valid. -/
def streamB (a b : Int) : Bool := inR a 0 4611686016279904236 && inR b 0 1000000
theorem streamB_1 {a b : Int} (h : inR a 0 4611686016279904236 = false) : streamB a b = false := by simp [streamB, h]
theorem streamB_2 {a b : Int} (h : inR a 0 4611686016279904236 = true) : inR b 0 1000000 = streamB a b := by simp [streamB, h]
theorem allR_oneS (a lo hi : Int) : allR [a] lo hi = inR a lo hi := by simp [allR]

set_option maxHeartbeats 400000 in
theorem implIsStream_any (a b : Int) (w : World) :
    Calls Try.prog 77 #[.agg #[.int .i64 a, .int .i64 b]] w fun e w' => e = .returned (.bool (streamB a b)) ∧ Below w.heap.size w w' := by
  go_enter Try.func77, Try.ntmps77
  go_wp2_with fail
  refine (isSeed_any _ _).mono ?_
  rintro e w' ⟨rfl, rfl⟩
  cases hA : inR a 0 4611686016279904236
  · have R := Lib.hid (streamB_1 (b := b) hA)
    clear hA
    go_wp2
    go_ret
    exact ⟨ret_bool R.out.symm, below_new _ _⟩
  · have R := Lib.hid (streamB_2 (b := b) hA)
    clear hA
    by_cases h1 : 0 ≤ b
    · by_cases h2 : b ≤ 1000000
      · have R2 := Lib.hid (inR_yes h1 h2)
        go_wp2
        go_ret
        exact ⟨ret_bool (by rw [← R.out, R2.out]), below_new _ _⟩
      · have R2 := Lib.hid (inR_no (lo := 0) (fun h => h2 h.2))
        go_wp2
        go_ret
        exact ⟨ret_bool (by rw [← R.out, R2.out]; exact decide_eq_false (by omega)), below_new _ _⟩
    · have R2 := Lib.hid (inR_no (hi := 1000000) (fun h => h1 h.1))
      go_wp2
      go_ret
      exact ⟨ret_bool (by rw [← R.out, R2.out]), below_new _ _⟩

/-- The bit of a seed at a position. -/
def bitV (a i : Int) : Int := (dig [a, i / 30] / 2 ^ (31 + i % 30).toNat) % 2
theorem bitV_bd (a i : Int) : 0 ≤ bitV a i ∧ bitV a i ≤ 1 := by unfold bitV; omega
theorem and_one (x : Int) (h0 : 0 ≤ x) (h1 : x < 9223372036854775808) : bits .and .i64 x 1 = x % 2 := by
  obtain ⟨n, rfl⟩ := Int.eq_ofNat_of_zero_le h0
  show IntKind.i64.wrap ((BitVec.ofInt 64 (n : Int) &&& BitVec.ofInt 64 1).toNat : Int) = _
  rw [BitVec.toNat_and, BitVec.ofInt_natCast, BitVec.toNat_ofNat, Nat.mod_eq_of_lt (by omega), show (BitVec.ofInt 64 1).toNat = 1 from rfl, Nat.and_one_is_mod, IntKind.wrap_i64]
  omega
theorem bitV_in (a i d : Int) (h : dig [a, i / 30] = d) (h0 : 0 ≤ d) (h1 : d ≤ 4611686016279904236) : bits .and .i64 (d / 2 ^ (31 + i % 30).toNat) 1 = bitV a i := by
  have hp : (0 : Int) < 2 ^ (31 + i % 30).toNat := Int.pow_pos (by omega)
  have h2 : d / 2 ^ (31 + i % 30).toNat ≤ d := Int.ediv_le_self _ h0
  rw [and_one _ (Int.ediv_nonneg h0 (by omega)) (by omega), bitV, h]

set_option maxHeartbeats 400000 in
theorem kBit_any (a i : Int) (w : World) (hi : 0 ≤ i) (hi2 : i < 1000000) :
    Calls Try.prog 90 #[.int .i64 a, .int .i64 i] w fun e w' => e = .returned (.int .i64 (bitV a i)) ∧ Below w.heap.size w w' := by
  go_enter Try.func90, Try.ntmps90
  go_wp2_with fail
  refine (hInts_any _ _ _ [a, i / 30] _ (own_new w [a, i / 30] 2 rfl (by omega)).ints (by omega)).mono ?_
  rintro e w' ⟨rfl, rfl⟩
  have hd := dig_bd [a, i / 30] (by simp)
  have E := Lib.hid (bitV_in a i)
  generalize dig [a, i / 30] = d at *
  have E2 := Lib.hid (E.out d rfl hd.1 hd.2)
  go_wp2
  go_ret
  exact ⟨ret_int E2.out, below_new _ _⟩

set_option maxHeartbeats 400000 in
theorem bitAt_any (a i : Int) (w : World) (hi : 0 ≤ i) (hi2 : i < 1000000) :
    Calls Try.prog 109 #[.int .i64 a, .int .i64 i] w fun e w' => e = .returned (.int .i64 (bitV a i)) ∧ Below w.heap.size w w' := by
  go_enter Try.func109, Try.ntmps109
  go_wp2_with fail
  refine (digest_any _ _ _ [a, i / 30] _ (own_new w [a, i / 30] 2 rfl (by omega)).ints (by omega)).mono ?_
  rintro e w' ⟨rfl, rfl⟩
  have hd := dig_bd [a, i / 30] (by simp)
  have E := Lib.hid (bitV_in a i)
  generalize dig [a, i / 30] = d at *
  have E2 := Lib.hid (E.out d rfl hd.1 hd.2)
  go_wp2
  go_ret
  exact ⟨ret_int E2.out, below_new _ _⟩

/-- What BitAt returns. -/
def bitB (a i : Int) : Bool := inR a 0 4611686016279904236 && inR i 0 999999
def bitR (a i : Int) : Int := if bitB a i = true then bitV a i else 0
theorem bitR_yes {a i : Int} (h : bitB a i = true) : bitR a i = bitV a i := by simp [bitR, h]
theorem bitR_no {a i : Int} (h : bitB a i = false) : bitR a i = 0 := by simp [bitR, h]
theorem bitB_1 {a i : Int} (h : inR a 0 4611686016279904236 = false) : bitB a i = false := by simp [bitB, h]
theorem bitB_2 {a i : Int} (h : inR a 0 4611686016279904236 = true) : inR i 0 999999 = bitB a i := by simp [bitB, h]
theorem bitB_of {a i : Int} (h : bitB a i = true) : 0 ≤ i ∧ i < 1000000 := by
  simp only [bitB, Bool.and_eq_true] at h
  have := inR_of h.2
  omega
end

section
open Go.Shelf

def lays125_ren : Go.Shelf.Ren := ⟨fun | 125 => 96 | 128 => 103 | 129 => 104 | n => n, fun | 46 => 83 | 3 => 3 | 51 => 106 | 53 => 73 | 4 => 4 | 5 => 5 | 9 => 9 | n => n, fun | n => n⟩
theorem lays125 : Go.Proofs.Lays.n125 Try.prog lays125_ren := {
  mixed := by kernel_rfl
  f125 := Try.func96.trans (congrArg some (by kernel_rfl))
  f128 := Try.func103.trans (congrArg some (by kernel_rfl))
  f129 := Try.func104.trans (congrArg some (by kernel_rfl))
  t3 := Try.underlying3
  a3 := Try.isAgg3
  z3 := Try.sizeOf3
  v3 := Try.zeroValue3
  t4 := Try.underlying4
  a4 := Try.isAgg4
  z4 := Try.sizeOf4
  v4 := Try.zeroValue4
  t5 := Try.underlying5
  a5 := Try.isAgg5
  z5 := Try.sizeOf5
  v5 := Try.zeroValue5
  t9 := Try.underlying9
  a9 := Try.isAgg9
  z9 := Try.sizeOf9
  v9 := Try.zeroValue9
  t46 := Try.underlying83
  a46 := Try.isAgg83
  z46 := Try.sizeOf83
  v46 := Try.zeroValue83
  t51 := Try.underlying106
  a51 := Try.isAgg106
  z51 := Try.sizeOf106
  v51 := Try.zeroValue106
  t53 := Try.underlying73
  a53 := Try.isAgg73
  z53 := Try.sizeOf73
  v53 := Try.zeroValue73 }

/-- bits.Len: the shelf's contract at this translation. -/
theorem bitsLen_any (x : Int) (w : World) (h0 : 0 ≤ x) (h1 : x ≤ 18446744073709551615) :
    Calls Try.prog 96 #[.int .u64 x] w fun e w' => e = .returned (.int .i64 (Lib.bitLen x.toNat)) ∧ w' = w := Any.bits_Len lays125 x w h0 h1
end

section
open Go.RowKit

/-- The program's stream behind a pointer. -/
def StrAt (w : World) (g : Nat) (s a : Int) : Prop := w.heap[g]? = some (.cells #[.int .i64 s, .int .i64 a] 52 (0, 0))
/-- The reference's reader behind a pointer. -/
def RdrAt (w : World) (g : Nat) (s a : Int) (ok : Bool) : Prop := w.heap[g]? = some (.cells #[.int .i64 s, .int .i64 a, .bool ok] 62 (0, 0))

theorem StrAt.lt {w : World} {g : Nat} {s a : Int} (h : StrAt w g s a) : g < w.heap.size := lt_of_block h
theorem RdrAt.lt {w : World} {g : Nat} {s a : Int} {ok : Bool} (h : RdrAt w g s a ok) : g < w.heap.size := lt_of_block h
theorem StrAt.below {w w' : World} {g : Nat} {s a : Int} (h : StrAt w g s a) (hb : Below w.heap.size w w') : StrAt w' g s a := (hb.block g h.lt).trans h
theorem RdrAt.below {w w' : World} {g : Nat} {s a : Int} {ok : Bool} (h : RdrAt w g s a ok) (hb : Below w.heap.size w w') : RdrAt w' g s a ok := (hb.block g h.lt).trans h

set_option maxHeartbeats 400000 in
theorem next_ok (g : Nat) (s a : Int) (w : World) (h : StrAt w g s a) (h0 : 0 ≤ a) (h1 : a < 1000000) :
    Calls Try.prog 105 #[.pointer (some ⟨g, 0, none⟩)] w fun e w' => e = .returned (.tuple #[.int .i64 (bitV s a), .bool true]) ∧ StrAt w' g s (a + 1) ∧ Chg g (g + 1) w w' := by
  have c0 := box_cell h 0 _ rfl
  have c1 := box_cell h 1 _ rfl
  have f1 := box_free h 1
  have k1 : StrAt (w.setCell ⟨g, 1, none⟩ (.int .i64 (a + 1))) g s (a + 1) := box_set h 1 _
  have K1 := Lib.hid ((Chg.refl g (g + 1) w).set (i := 1) (v := .int .i64 (a + 1)) (Nat.le_refl _) (by omega))
  have d0 := box_cell k1 0 _ rfl
  have d1 := box_cell k1 1 _ rfl
  go_enter Try.func105, Try.ntmps105
  go_wp2
  have hwr : IntKind.i64.wrap a = a := IntWalk.i64_in _ (by omega)
  go_region_held3 (fun w2 => w2.cell? ⟨g, 0, none⟩ = some (.int .i64 s) ∧ w2.cell? ⟨g, 1, none⟩ = some (.int .i64 (a + 1))) (go_keep) ((go_at_call 109; refine (bitAt_any _ _ _ h0 h1).mono ?_; rintro e w2 ⟨rfl, hb2⟩; have k2 : StrAt w2 g s (a + 1) := (hb2.block g k1.lt).trans k1; have g0 := box_cell k2 0 _ rfl; have g1 := box_cell k2 1 _ rfl; have K2 := Lib.hid (K1.out.drew.then_ hb2)))
  clear hwr
  go_wp2
  go_ret2
  exact ⟨rfl, k2, K2.out⟩

set_option maxHeartbeats 400000 in
theorem next_no (g : Nat) (s a : Int) (w : World) (h : StrAt w g s a) (h1 : 1000000 ≤ a) :
    Calls Try.prog 105 #[.pointer (some ⟨g, 0, none⟩)] w fun e w' => e = .returned (.tuple #[.int .i64 0, .bool false]) ∧ w = w' := by
  have c0 := box_cell h 0 _ rfl
  have c1 := box_cell h 1 _ rfl
  go_enter Try.func105, Try.ntmps105
  go_wp2
  go_ret2
  exact ⟨rfl, rfl⟩

set_option maxHeartbeats 400000 in
theorem bit_ok (g : Nat) (s a : Int) (w : World) (h : RdrAt w g s a true) (h0 : 0 ≤ a) (h1 : a < 1000000) :
    Calls Try.prog 67 #[.pointer (some ⟨g, 0, none⟩)] w fun e w' => e = .returned (.int .i64 (bitV s a)) ∧ RdrAt w' g s (a + 1) true ∧ Chg g (g + 1) w w' := by
  have c0 := box_cell h 0 _ rfl
  have c1 := box_cell h 1 _ rfl
  have c2 := box_cell h 2 _ rfl
  go_enter Try.func67, Try.ntmps67
  go_wp2
  go_region_held3 (fun w2 => w2.cell? ⟨g, 0, none⟩ = some (.int .i64 s) ∧ w2.cell? ⟨g, 1, none⟩ = some (.int .i64 a)) (go_keep) ((go_at_call 90; refine (kBit_any _ _ _ h0 h1).mono ?_; rintro e w2 ⟨rfl, hb2⟩; have k2 : RdrAt w2 g s a true := (hb2.block g h.lt).trans h; have g0 := box_cell k2 0 _ rfl; have g1 := box_cell k2 1 _ rfl; have gf := box_free k2 1; have K2 := Lib.hid ((Chg.refl g (g + 1) w).drew.then_ hb2)))
  have k3 : RdrAt (w2.setCell ⟨g, 1, none⟩ (.int .i64 (a + 1))) g s (a + 1) true := box_set k2 1 _
  have K3 := Lib.hid (K2.out.set (g := g) (i := 1) (v := .int .i64 (a + 1)) (Nat.le_refl _) (by omega))
  go_wp2
  go_ret
  exact ⟨rfl, k3, K3.out⟩

set_option maxHeartbeats 400000 in
theorem bit_no (g : Nat) (s a : Int) (w : World) (h : RdrAt w g s a true) (h1 : 1000000 ≤ a) :
    Calls Try.prog 67 #[.pointer (some ⟨g, 0, none⟩)] w fun e w' => e = .returned (.int .i64 0) ∧ RdrAt w' g s a false ∧ Chg g (g + 1) w w' := by
  have c0 := box_cell h 0 _ rfl
  have c1 := box_cell h 1 _ rfl
  have c2 := box_cell h 2 _ rfl
  have f2 := box_free h 2
  have k3 : RdrAt (w.setCell ⟨g, 2, none⟩ (.bool false)) g s a false := box_set h 2 _
  have K3 := Lib.hid ((Chg.refl g (g + 1) w).set (g := g) (i := 2) (v := .bool false) (Nat.le_refl _) (by omega))
  have d2 := box_cell k3 2 _ rfl
  go_enter Try.func67, Try.ntmps67
  go_wp2
  go_ret
  exact ⟨rfl, k3, K3.out⟩

set_option maxHeartbeats 400000 in
theorem bit_dead (g : Nat) (s a : Int) (w : World) (h : RdrAt w g s a false) :
    Calls Try.prog 67 #[.pointer (some ⟨g, 0, none⟩)] w fun e w' => e = .returned (.int .i64 0) ∧ RdrAt w' g s a false ∧ Chg g (g + 1) w w' := by
  have c0 := box_cell h 0 _ rfl
  have c1 := box_cell h 1 _ rfl
  have c2 := box_cell h 2 _ rfl
  have f2 := box_free h 2
  by_cases hlt : a < 1000000
  · go_enter Try.func67, Try.ntmps67
    go_wp2
    go_ret
    exact ⟨rfl, h, Chg.refl _ _ _⟩
  · have k3 : RdrAt (w.setCell ⟨g, 2, none⟩ (.bool false)) g s a false := box_set h 2 _
    have K3 := Lib.hid ((Chg.refl g (g + 1) w).set (g := g) (i := 2) (v := .bool false) (Nat.le_refl _) (by omega))
    have d2 := box_cell k3 2 _ rfl
    go_enter Try.func67, Try.ntmps67
    go_wp2
    go_ret
    exact ⟨rfl, k3, K3.out⟩
end

section
open Go.RowKit

/-- k bits more, the first having the greatest value. -/
def numO (s : Int) : Nat → Option (Int × Int) → Option (Int × Int)
  | 0, o => o
  | k + 1, o => match numO s k o with
    | none => none
    | some (x, a) => if a < 1000000 then some (2 * x + bitV s a, a + 1) else none
theorem numO_none (s : Int) (k : Nat) : numO s k none = none := by
  induction k with
  | zero => rfl
  | succ k ih => simp only [numO, ih]
theorem numO_bd {s : Int} {k : Nat} {a x a' : Int} (h : numO s k (some (0, a)) = some (x, a')) (h0 : 0 ≤ a) (h1 : a ≤ 1000000) : 0 ≤ x ∧ x < 2 ^ k ∧ 0 ≤ a' ∧ a' ≤ 1000000 := by
  induction k generalizing x a' with
  | zero => simp only [numO, Option.some.injEq, Prod.mk.injEq] at h; omega
  | succ k ih =>
    simp only [numO] at h
    split at h
    · cases h
    · rename_i y b hy
      have hb := ih hy
      split at h
      · simp only [Option.some.injEq, Prod.mk.injEq] at h
        have := bitV_bd s b
        rw [Int.pow_succ]
        omega
      · cases h
theorem numO_go {s : Int} {k : Nat} {o : Option (Int × Int)} {x a : Int} (h : numO s k o = some (x, a)) (h1 : a < 1000000) : numO s (k + 1) o = some (2 * x + bitV s a, a + 1) := by
  simp only [numO, h]; rw [if_pos h1]
theorem numO_end {s : Int} {k : Nat} {o : Option (Int × Int)} {x a : Int} (h : numO s k o = some (x, a)) (h1 : 1000000 ≤ a) : numO s (k + 1) o = none := by
  simp only [numO, h]; rw [if_neg (by omega)]
theorem numO_dead {s : Int} {k : Nat} {o : Option (Int × Int)} (h : numO s k o = none) : numO s (k + 1) o = none := by
  simp only [numO, h]
theorem numO_le {s : Int} {k n : Nat} {o : Option (Int × Int)} (h : numO s k o = none) (hk : k ≤ n) : numO s n o = none := by
  obtain ⟨d, rfl⟩ := Nat.exists_eq_add_of_le hk
  clear hk
  induction d with
  | zero => exact h
  | succ d ih => exact numO_dead ih

theorem two_pow_le {k m : Nat} (h : k ≤ m) : (2 : Int) ^ k ≤ 2 ^ m := by
  have h1 : ((2 ^ k : Nat) : Int) ≤ ((2 ^ m : Nat) : Int) := by exact_mod_cast Nat.pow_le_pow_right (by omega) h
  rw [Int.natCast_pow, Int.natCast_pow] at h1
  exact h1

/-- Tries to read a number of L bits below n. -/
def belowT (s n : Int) (L : Nat) : Nat → Int → Option (Int × Int)
  | 0, _ => none
  | t + 1, a => match numO s L (some (0, a)) with
    | none => none
    | some (v, a') => if v < n then some (v, a') else belowT s n L t a'
theorem belowT_none {s n : Int} {L t : Nat} {a : Int} (h : numO s L (some (0, a)) = none) : belowT s n L (t + 1) a = none := by simp only [belowT, h]
theorem belowT_yes {s n : Int} {L t : Nat} {a v a' : Int} (h : numO s L (some (0, a)) = some (v, a')) (hv : v < n) : belowT s n L (t + 1) a = some (v, a') := by
  simp only [belowT, h]; rw [if_pos hv]
theorem belowT_more {s n : Int} {L t : Nat} {a v a' : Int} (h : numO s L (some (0, a)) = some (v, a')) (hv : ¬ v < n) : belowT s n L (t + 1) a = belowT s n L t a' := by
  simp only [belowT, h]; rw [if_neg hv]
theorem belowT_bd {s n : Int} {L t : Nat} {a v a' : Int} (h : belowT s n L t a = some (v, a')) (h0 : 0 ≤ a) (h1 : a ≤ 1000000) : 0 ≤ v ∧ v < n ∧ 0 ≤ a' ∧ a' ≤ 1000000 := by
  induction t generalizing a with
  | zero => cases h
  | succ t ih =>
    cases hn : numO s L (some (0, a)) with
    | none => rw [belowT_none hn] at h; cases h
    | some p =>
      obtain ⟨x, b⟩ := p
      have hb := numO_bd hn h0 h1
      by_cases hx : x < n
      · rw [belowT_yes hn hx] at h
        simp only [Option.some.injEq, Prod.mk.injEq] at h
        omega
      · rw [belowT_more hn hx] at h
        exact ih h hb.2.2.1 hb.2.2.2
/-- The number of bits of n - 1. -/
def lenOf (n : Int) : Nat := Lib.bitLen (n - 1).toNat
def belowM (s n a : Int) : Option (Int × Int) := belowT s n (lenOf n) 200 a
theorem belowM_bd {s n a v a' : Int} (h : belowM s n a = some (v, a')) (h0 : 0 ≤ a) (h1 : a ≤ 1000000) : 0 ≤ v ∧ v < n ∧ 0 ≤ a' ∧ a' ≤ 1000000 := belowT_bd h h0 h1

theorem bitLenAux_spec (f x : Nat) (h : x < 2 ^ f) : x < 2 ^ Lib.bitLenAux f x ∧ ∀ k, k < Lib.bitLenAux f x → 2 ^ k ≤ x := by
  induction f generalizing x with
  | zero => simp only [Lib.bitLenAux]; exact ⟨h, fun k hk => absurd hk (by omega)⟩
  | succ f ih =>
    simp only [Lib.bitLenAux]
    split
    · rename_i h0; subst h0; exact ⟨by omega, fun k hk => absurd hk (by omega)⟩
    · rename_i h0
      have h2 := ih (x / 2) (by rw [Nat.pow_succ] at h; omega)
      refine ⟨by rw [Nat.add_comm, Nat.pow_succ]; omega, fun k hk => ?_⟩
      cases k with
      | zero => omega
      | succ k => have := h2.2 k (by omega); rw [Nat.pow_succ]; omega
theorem lenOf_le {n : Int} (h1 : 1 ≤ n) (h2 : n ≤ 1000000000) : lenOf n ≤ 30 := by
  unfold lenOf Lib.bitLen
  have h := bitLenAux_spec 64 (n - 1).toNat (by omega)
  rcases Nat.lt_or_ge 30 (Lib.bitLenAux 64 (n - 1).toNat) with h3 | h3
  · have := h.2 30 h3; omega
  · exact h3
theorem lenOf_lt {n : Int} {k : Nat} (h1 : 1 ≤ n) (h2 : n ≤ 1000000000) (hk : k < lenOf n) : (2 : Int) ^ k < n := by
  unfold lenOf Lib.bitLen at hk
  have h := (bitLenAux_spec 64 (n - 1).toNat (by omega)).2 k hk
  have h4 : ((2 ^ k : Nat) : Int) ≤ ((n - 1).toNat : Int) := by exact_mod_cast h
  rw [Int.natCast_pow] at h4
  rw [show ((2 : Nat) : Int) = 2 from rfl] at h4
  omega
theorem lenOf_ge {n : Int} (h1 : 1 ≤ n) (h2 : n ≤ 1000000000) : n ≤ (2 : Int) ^ lenOf n := by
  unfold lenOf Lib.bitLen
  have h := (bitLenAux_spec 64 (n - 1).toNat (by omega)).1
  have h4 : (((n - 1).toNat : Nat) : Int) < ((2 ^ Lib.bitLenAux 64 (n - 1).toNat : Nat) : Int) := by exact_mod_cast h
  rw [Int.natCast_pow] at h4
  rw [show ((2 : Nat) : Int) = 2 from rfl] at h4
  omega

/-- What a reading method of the program leaves: f of the value and the new position, or a failure. -/
def SPost {α : Type} (f : α → Value) (g : Nat) (s : Int) (r : Option (α × Int)) (w : World) (e : Ending) (w' : World) : Prop :=
  (∀ v a', r = some (v, a') → e = .returned (.tuple #[f v, .bool true]) ∧ StrAt w' g s a') ∧ (r = none → ∃ (z : α) (a' : Int), e = .returned (.tuple #[f z, .bool false]) ∧ StrAt w' g s a') ∧ Chg g (g + 1) w w'
theorem SPost.yes {α : Type} {f : α → Value} {g : Nat} {s : Int} {r : Option (α × Int)} {w w' : World} {v : α} {a' : Int} (h : r = some (v, a')) (hs : StrAt w' g s a') (hc : Chg g (g + 1) w w') : SPost f g s r w (.returned (.tuple #[f v, .bool true])) w' :=
  ⟨fun v2 a2 h2 => (by rw [h] at h2; simp only [Option.some.injEq, Prod.mk.injEq] at h2; obtain ⟨rfl, rfl⟩ := h2; exact ⟨rfl, hs⟩), fun h2 => (by rw [h] at h2; cases h2), hc⟩
theorem SPost.no {α : Type} {f : α → Value} {g : Nat} {s : Int} {r : Option (α × Int)} {w w' : World} {z : α} {a' : Int} (h : r = none) (hs : StrAt w' g s a') (hc : Chg g (g + 1) w w') : SPost f g s r w (.returned (.tuple #[f z, .bool false])) w' :=
  ⟨fun v2 a2 h2 => (by rw [h] at h2; cases h2), fun _ => ⟨z, a', rfl, hs⟩, hc⟩
/-- What a reading method of the reference leaves; z behind a failure. -/
def KPost {α : Type} (f : α → Value) (z : Value) (g : Nat) (s : Int) (r : Option (α × Int)) (w : World) (e : Ending) (w' : World) : Prop :=
  (∀ v a', r = some (v, a') → e = .returned (f v) ∧ RdrAt w' g s a' true) ∧ (r = none → e = .returned z ∧ ∃ a', RdrAt w' g s a' false ∧ 0 ≤ a' ∧ a' ≤ 1000000) ∧ Chg g (g + 1) w w'
theorem KPost.yes {α : Type} {f : α → Value} {z : Value} {g : Nat} {s : Int} {r : Option (α × Int)} {w w' : World} {v : α} {a' : Int} (h : r = some (v, a')) (hs : RdrAt w' g s a' true) (hc : Chg g (g + 1) w w') : KPost f z g s r w (.returned (f v)) w' :=
  ⟨fun v2 a2 h2 => (by rw [h] at h2; simp only [Option.some.injEq, Prod.mk.injEq] at h2; obtain ⟨rfl, rfl⟩ := h2; exact ⟨rfl, hs⟩), fun h2 => (by rw [h] at h2; cases h2), hc⟩
theorem KPost.no {α : Type} {f : α → Value} {z : Value} {g : Nat} {s : Int} {r : Option (α × Int)} {w w' : World} {a' : Int} (h : r = none) (hs : RdrAt w' g s a' false) (h0 : 0 ≤ a') (h1 : a' ≤ 1000000) (hc : Chg g (g + 1) w w') : KPost f z g s r w (.returned z) w' :=
  ⟨fun v2 a2 h2 => (by rw [h] at h2; cases h2), fun _ => ⟨rfl, a', hs, h0, h1⟩, hc⟩

set_option maxHeartbeats 800000 in
theorem number_any (g : Nat) (s a : Int) (n : Nat) (w : World) (h : StrAt w g s a) (h0 : 0 ≤ a) (h1 : a ≤ 1000000) (hn : n ≤ 40) :
    Calls Try.prog 97 #[.pointer (some ⟨g, 0, none⟩), .int .i64 n] w (SPost (Value.int .i64) g s (numO s n (some (0, a))) w) := by
  have HM : Hid (∀ k x b, numO s k (some (0, a)) = some (x, b) → 0 ≤ x ∧ x < 2 ^ k ∧ 0 ≤ b ∧ b ≤ 1000000) := Lib.hid fun k x b hk => numO_bd hk h0 h1
  go_enter Try.func97, Try.ntmps97
  go_wp2
  go_loopw [6, 10] (fun v i wr => ∃ (k : Nat) (x b : Int), k ≤ n ∧ i = .int .i64 k ∧ v = .int .i64 x ∧ Hid (numO s k (some (0, a)) = some (x, b)) ∧ StrAt wr g s b ∧ Chg g (g + 1) w wr) (fun _ i _ => n - (intOf i).toNat)
  case atStart => exact ⟨0, 0, a, Nat.zero_le _, rfl, rfl, Lib.hid rfl, h, Chg.refl _ _ _⟩
  case round =>
    clear h
    obtain ⟨k, x, b, hk, rfl, rfl, hx, hs, hc⟩ := hrel
    have hbd := HM.out k x b hx.out
    have hp : (2 : Int) ^ k ≤ 2 ^ 40 := two_pow_le (by omega)
    have hx2 : x < 1099511627776 := by omega
    have hx0 := hbd.1
    have hb0 := hbd.2.2.1
    have hb1 := hbd.2.2.2
    clear hbd hp
    by_cases hlt : k < n
    · by_cases hb : b < 1000000
      · have R := Lib.hid (numO_go hx.out hb)
        have hv := bitV_bd s b
        go_wp2_with fail
        refine (next_ok _ _ _ _ hs (by omega) hb).mono ?_
        rintro e w2 ⟨rfl, hs2, hc2⟩
        have hc3 := hc.trans hc2
        clear hs hc hc2
        go_wp2
        go_roundw
        case rel => exact ⟨k + 1, _, _, by omega, by go_num, rfl, R, hs2, hc3⟩
        case measure => simp [intOf]; omega
      · have R := Lib.hid (numO_le (numO_end hx.out (by omega)) (show k + 1 ≤ n by omega))
        go_wp2_with fail
        refine (next_no _ _ _ _ hs (by omega)).mono ?_
        rintro e w2 ⟨rfl, rfl⟩
        go_wp2
        go_ret2
        exact SPost.no R.out hs hc
    · obtain rfl : k = n := by omega
      go_wp2
      go_ret2
      exact SPost.yes hx.out hs hc

set_option maxRecDepth 100000 in
set_option maxHeartbeats 800000 in
theorem below_any (g : Nat) (s a n : Int) (w : World) (h : StrAt w g s a) (h0 : 0 ≤ a) (h1 : a ≤ 1000000) (hn : 1 ≤ n) (hn2 : n ≤ 1000000000) :
    Calls Try.prog 78 #[.pointer (some ⟨g, 0, none⟩), .int .i64 n] w (SPost (Value.int .i64) g s (belowM s n a) w) := by
  have hL := lenOf_le hn hn2
  have HR := Lib.hid (show belowM s n a = belowT s n (lenOf n) 200 a from rfl)
  have HLe := Lib.hid (show Lib.bitLen (n - 1).toNat = lenOf n from rfl)
  have HM : Hid (∀ b x b', 0 ≤ b → b ≤ 1000000 → numO s (lenOf n) (some (0, b)) = some (x, b') → 0 ≤ b' ∧ b' ≤ 1000000) := Lib.hid fun b x b' hb0 hb1 hk => (numO_bd hk hb0 hb1).2.2
  generalize belowM s n a = R at *
  go_enter Try.func78, Try.ntmps78
  go_wp2_with fail
  refine (bitsLen_any _ _ (by omega) (by omega)).mono ?_
  rintro e w' ⟨rfl, rfl⟩
  rw [HLe.out]
  generalize lenOf n = L at *
  go_wp2
  go_loopw [13] (fun i wr => ∃ (k : Nat) (b : Int), k ≤ 200 ∧ i = .int .i64 k ∧ Hid (R = belowT s n L (200 - k) b) ∧ StrAt wr g s b ∧ 0 ≤ b ∧ b ≤ 1000000 ∧ Chg g (g + 1) w' wr) (fun i _ => 200 - (intOf i).toNat)
  case atStart => exact ⟨0, a, Nat.zero_le _, rfl, HR, h, h0, h1, Chg.refl _ _ _⟩
  case round =>
    clear h
    obtain ⟨k, b, hk, rfl, hx, hs, hb0, hb1, hc⟩ := hrel
    by_cases hlt : k < 200
    · have hs200 : 200 - k = (199 - k) + 1 := by omega
      rw [hs200] at hx
      clear hs200
      go_wp2_with fail
      refine (number_any _ _ _ _ _ hs hb0 hb1 (by omega)).mono ?_
      rintro e w2 ⟨hy, hno, hc2⟩
      have hc3 := hc.trans hc2
      clear hs hc hc2
      cases hN : numO s L (some (0, b)) with
      | none =>
        obtain ⟨z, b2, rfl, hs2⟩ := hno hN
        have E := Lib.hid (hx.out.trans (belowT_none hN))
        clear hy hno hN
        go_wp2
        go_ret2
        exact SPost.no E.out hs2 hc3
      | some p =>
        obtain ⟨v, b2⟩ := p
        obtain ⟨rfl, hs2⟩ := hy v b2 hN
        have hb2 := HM.out b v b2 hb0 hb1 hN
        clear hy hno
        by_cases hv : v < n
        · have E := Lib.hid (hx.out.trans (belowT_yes hN hv))
          clear hN
          go_wp2
          go_ret2
          exact SPost.yes E.out hs2 hc3
        · have E := Lib.hid (hx.out.trans (belowT_more hN hv))
          clear hN
          go_wp2
          go_roundw
          case rel => exact ⟨k + 1, b2, by omega, by go_num, by rw [show 200 - (k + 1) = 199 - k by omega]; exact E, hs2, hb2.1, hb2.2, hc3⟩
          case measure => simp [intOf]; omega
    · have E : Hid (R = none) := Lib.hid (by rw [hx.out, show 200 - k = 0 by omega]; rfl)
      go_wp2
      go_ret2
      exact SPost.no E.out hs hc
end

section
open Go.RowKit

theorem bit_any (g : Nat) (s a : Int) (ok : Bool) (w : World) (h : RdrAt w g s a ok) (h0 : 0 ≤ a) (h1 : a ≤ 1000000) :
    Calls Try.prog 67 #[.pointer (some ⟨g, 0, none⟩)] w (KPost (Value.int .i64) (.int .i64 0) g s (if ok = true ∧ a < 1000000 then some (bitV s a, a + 1) else none) w) := by
  cases ok
  · exact (bit_dead g s a w h).mono fun e w' ⟨he, h2, hc⟩ => he ▸ KPost.no (by simp) h2 h0 h1 hc
  · by_cases hb : a < 1000000
    · exact (bit_ok g s a w h h0 hb).mono fun e w' ⟨he, h2, hc⟩ => he ▸ KPost.yes (by simp [hb]) h2 hc
    · exact (bit_no g s a w h (by omega)).mono fun e w' ⟨he, h2, hc⟩ => he ▸ KPost.no (by simp [hb]) h2 h0 h1 hc

/-- The reader in a state of the model: alive with x read so far, or failed. -/
def KSt (w : World) (g : Nat) (s x : Int) (o : Option (Int × Int)) : Prop :=
  (∃ b, o = some (x, b) ∧ RdrAt w g s b true ∧ 0 ≤ b ∧ b ≤ 1000000) ∨ (o = none ∧ ∃ b, RdrAt w g s b false ∧ 0 ≤ b ∧ b ≤ 1000000)

set_option maxRecDepth 100000 in
set_option maxHeartbeats 2000000 in
theorem kbelow_any (g : Nat) (s a n : Int) (ok : Bool) (w : World) (h : RdrAt w g s a ok) (h0 : 0 ≤ a) (h1 : a ≤ 1000000) (hn : 1 ≤ n) (hn2 : n ≤ 1000000000) :
    Calls Try.prog 31 #[.pointer (some ⟨g, 0, none⟩), .int .i64 n] w (KPost (Value.int .i64) (.int .i64 0) g s (if ok = true then belowM s n a else none) w) := by
  have hL := lenOf_le hn hn2
  have HR := Lib.hid (show (if ok = true then belowM s n a else none) = (if ok = true then belowT s n (lenOf n) 200 a else none) from rfl)
  have HLt : Hid (∀ k, k < lenOf n → (2 : Int) ^ k < n) := Lib.hid fun k hk => lenOf_lt hn hn2 hk
  have HGe := Lib.hid (lenOf_ge hn hn2)
  have HM : Hid (∀ k b x b', 0 ≤ b → b ≤ 1000000 → numO s k (some (0, b)) = some (x, b') → 0 ≤ x ∧ x < 2 ^ k ∧ 0 ≤ b' ∧ b' ≤ 1000000) := Lib.hid fun k b x b' hb0 hb1 hk => numO_bd hk hb0 hb1
  generalize (if ok = true then belowM s n a else none) = R at *
  generalize lenOf n = L at *
  go_enter Try.func31, Try.ntmps31
  go_wp2
  go_loop [5] (fun i => ∃ k : Nat, k ≤ L ∧ i = .int .i64 k) (fun i => L - (intOf i).toNat)
  case atStart => exact ⟨0, Nat.zero_le _, rfl⟩
  case round =>
    obtain ⟨k, hk, rfl⟩ := hrel
    have hp : (2 : Int) ^ k ≤ 1073741824 := two_pow_le (m := 30) (by omega)
    have hp0 : 0 < (2 : Int) ^ k := Int.pow_pos (by omega)
    by_cases hlt : k < L
    · have h2 := HLt.out k hlt
      go_wp2
      go_round
      case rel => exact ⟨k + 1, by omega, by go_num⟩
      case measure => simp [intOf]; omega
    · obtain rfl : L = k := by omega
      have h2 := HGe.out
      have hnd : decide ((2 : Int) ^ L < n) = false := decide_eq_false (by omega)
      go_wp2
      clear hnd h2 hp hp0 hlt hk HLt HGe
      go_loopw [6] (fun i wr => ∃ (k : Nat) (b : Int) (okj : Bool), k ≤ 200 ∧ i = .int .i64 k ∧ Hid (R = (if okj = true then belowT s n L (200 - k) b else none)) ∧ RdrAt wr g s b okj ∧ 0 ≤ b ∧ b ≤ 1000000 ∧ Chg g (g + 1) w wr) (fun i _ => 200 - (intOf i).toNat)
      case atStart => exact ⟨0, a, ok, Nat.zero_le _, rfl, HR, h, h0, h1, Chg.refl _ _ _⟩
      case round =>
        clear h
        obtain ⟨k, b, okj, hk, rfl, hx, hs, hb0, hb1, hc⟩ := hrel
        by_cases hlt : k < 200
        · have hs200 : 200 - k = (199 - k) + 1 := by omega
          rw [hs200] at hx
          clear hs200
          obtain ⟨O, hO⟩ : ∃ O : Option (Int × Int), (if okj = true then some (0, b) else none) = O := ⟨_, rfl⟩
          have HO := Lib.hid hO
          clear hO
          have hkd : decide ((k : Int) < 200) = true := decide_eq_true (by omega)
          go_wp2
          clear hkd
          go_loopw [7, 8] (fun x i w2 => ∃ (j : Nat) (y : Int), j ≤ L ∧ i = .int .i64 j ∧ x = .int .i64 y ∧ 0 ≤ y ∧ y < 2 ^ j ∧ KSt w2 g s y (numO s j O) ∧ Chg g (g + 1) w w2) (fun _ i _ => L - (intOf i).toNat)
          case atStart =>
            refine ⟨0, 0, Nat.zero_le _, rfl, rfl, by omega, by omega, ?_, hc⟩
            rw [← HO.out]
            cases okj
            · exact .inr ⟨by simp [numO], b, hs, hb0, hb1⟩
            · exact .inl ⟨b, by simp [numO], hs, hb0, hb1⟩
          case round =>
            obtain ⟨j, y, hj, rfl, rfl, hy0, hy1, hst, hc2⟩ := hrel
            clear hs hc
            have hp : (2 : Int) ^ j ≤ 1073741824 := two_pow_le (m := 30) (by omega)
            have hy2 : y < 1073741824 := by omega
            have hps := Lib.hid (Int.pow_succ 2 j)
            by_cases hjl : j < L
            · clear hp
              go_wp2_with fail
              rcases hst with ⟨b2, ho, hr, hb20, hb21⟩ | ⟨ho, b2, hr, hb20, hb21⟩
              · refine (bit_any _ _ _ _ _ hr hb20 hb21).mono ?_
                rintro e w3 ⟨hyes, hno, hc3⟩
                have hc4 := hc2.trans hc3
                clear hc2 hc3 hr
                by_cases hb2 : b2 < 1000000
                · obtain ⟨rfl, hr3⟩ := hyes _ _ (if_pos ⟨rfl, hb2⟩)
                  have hv := bitV_bd s b2
                  have hst3 : KSt w3 g s (2 * y + bitV s b2) (numO s (j + 1) O) := .inl ⟨b2 + 1, numO_go ho hb2, hr3, by omega, by omega⟩
                  clear hyes hno ho
                  go_wp2
                  go_roundw
                  case rel => exact ⟨j + 1, _, by omega, by go_num, rfl, by omega, by rw [hps.out]; omega, hst3, hc4⟩
                  case measure => simp [intOf]; omega
                · obtain ⟨rfl, b3, hr3, hb30, hb31⟩ := hno (if_neg (fun h => hb2 h.2))
                  have hst3 : KSt w3 g s (2 * y + 0) (numO s (j + 1) O) := .inr ⟨numO_end ho (by omega), b3, hr3, hb30, hb31⟩
                  rw [Int.add_zero] at hst3
                  clear hyes hno ho
                  go_wp2
                  go_roundw
                  case rel => exact ⟨j + 1, _, by omega, by go_num, rfl, by omega, by rw [hps.out]; omega, hst3, hc4⟩
                  case measure => simp [intOf]; omega
              · refine (bit_any _ _ _ _ _ hr hb20 hb21).mono ?_
                rintro e w3 ⟨hyes, hno, hc3⟩
                have hc4 := hc2.trans hc3
                clear hc2 hc3 hr
                obtain ⟨rfl, b3, hr3, hb30, hb31⟩ := hno (if_neg (by simp))
                have hst3 : KSt w3 g s (2 * y + 0) (numO s (j + 1) O) := .inr ⟨numO_dead ho, b3, hr3, hb30, hb31⟩
                rw [Int.add_zero] at hst3
                clear hyes hno ho
                go_wp2
                go_roundw
                case rel => exact ⟨j + 1, _, by omega, by go_num, rfl, by omega, by rw [hps.out]; omega, hst3, hc4⟩
                case measure => simp [intOf]; omega
            · obtain rfl : L = j := by omega
              rcases hst with ⟨b2, ho, hr, hb20, hb21⟩ | ⟨ho, b2, hr, hb20, hb21⟩
              · rw [← HO.out] at ho
                have hokj : okj = true := by
                  cases okj
                  · rw [if_neg (by simp), numO_none] at ho; cases ho
                  · rfl
                subst hokj
                rw [if_pos rfl] at ho hx
                have c2 := box_cell hr 2 _ rfl
                by_cases hv : y < n
                · have E := Lib.hid (hx.out.trans (belowT_yes ho hv))
                  clear ho hy1 hp hps
                  go_wp2
                  go_ret
                  exact KPost.yes E.out hr hc2
                · have E := Lib.hid (hx.out.trans (belowT_more ho hv))
                  clear ho hy1 hp hps
                  go_wp2
                  go_roundw
                  case rel => exact ⟨k + 1, b2, true, by omega, by go_num, by rw [if_pos rfl, show 200 - (k + 1) = 199 - k by omega]; exact E, hr, hb20, hb21, hc2⟩
                  case measure => simp [intOf]; omega
              · have c2 := box_cell hr 2 _ rfl
                have E : Hid (R = none) := by
                  rw [← HO.out] at ho
                  cases okj
                  · exact hx
                  · exact Lib.hid (hx.out.trans (belowT_none ho))
                clear ho hy1 hp hps
                go_wp2
                go_ret
                exact KPost.no E.out hr hb20 hb21 hc2
        · have E : Hid (R = none) := by
            cases okj
            · exact hx
            · exact Lib.hid (by rw [hx.out, show 200 - k = 0 by omega]; rfl)
          have c2 := box_cell hs 2 _ rfl
          have f2 := box_free hs 2
          have k3 : RdrAt (wr.setCell ⟨g, 2, none⟩ (.bool false)) g s b false := box_set hs 2 _
          have K3 := Lib.hid (hc.set (g := g) (i := 2) (v := .bool false) (Nat.le_refl _) (by omega))
          go_wp2
          go_ret
          exact KPost.no E.out k3 hb0 hb1 K3.out
end
end Go.Proofs.Ytcjmapdeopffcaa
