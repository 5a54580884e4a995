/- Several small texts in one: Hash, Seal. -/
import Derived.Test.YtcjmapdeopffcaaRows
import Derived.Test.YtcjmapdeopffcaaPlain
import Derived.Test.YtcjmapdeopffcaaZa
import Derived.WalkKit
import Derived.WalkSpells
import Derived.WalkLawsBesides
namespace Go.Proofs.Ytcjmapdeopffcaa

section
open Go.RowKit

set_option maxHeartbeats 400000 in
theorem step_any (f n x m p : Int) (w : World) (hf : 0 ≤ f) (hf2 : f ≤ 100000) (hn : 0 ≤ n) (hn2 : n < p) (hp : 0 < p) (hp2 : p ≤ 2147483647) (hm : 0 ≤ m) (hm2 : m < p) :
    Calls Try.prog 112 #[.int .i64 f, .int .i64 n, .int .i64 x, .int .i64 m, .int .i64 p] w fun e w' => e = .returned (.int .i64 ((f * n + x % p + m) % p)) ∧ w = w' := by
  have h0 := tmod_bd x p hp
  have h1 := mul_bd f n 100000 2147483647 hf hf2 hn (by omega)
  have H2 := Lib.hid (tmod_neg x p hp)
  have H3 := Lib.hid (tmod_pos x p hp)
  go_enter Try.func112, Try.ntmps112
  go_wp2
  all_goals go_ret
  · have h : x.tmod p < 0 := by assumption
    rw [← H2.out h]
    exact ⟨rfl, rfl⟩
  · have h : 0 ≤ x.tmod p := by assumption
    rw [← H3.out h]
    exact ⟨rfl, rfl⟩

set_option maxHeartbeats 400000 in
theorem digest_any (A : Option Addr) (n c : Nat) (xs : List Int) (w : World) (hx : Ints w A n xs) (hn : n ≤ 1000000) :
    Calls Try.prog 111 #[.slice A n c] w fun e w' => e = .returned (.int .i64 (dig xs)) ∧ w = w' := by
  have hl : xs.length = n := hx.1
  have HL := Lib.hid hl
  clear hl
  have HA := Lib.hid (digA_bd xs (by rw [HL.out]; omega))
  have HB := Lib.hid (digB_bd xs)
  go_enter Try.func111, Try.ntmps111
  go_wp2
  go_loop [3, 4, 13] (fun a b t => ∃ k : Nat, k ≤ n + 4 ∧ t = .int .i64 k ∧ a = .int .i64 (digA xs k) ∧ b = .int .i64 (digB xs k)) (fun _ _ t => n + 4 - (intOf t).toNat)
  case atStart => exact ⟨0, by omega, rfl, val_int (by simp only [digA]; rw [HL.out]; omega), rfl⟩
  case round =>
    obtain ⟨k, hk, rfl, rfl, rfl⟩ := hrel
    have ha := HA.out k
    have hb := HB.out k
    have hs := HA.out (k + 1)
    have hin2 : ¬ k < n → xs[k]?.getD 0 = 0 := fun h => by rw [List.getElem?_eq_none (by rw [HL.out]; omega)]; rfl
    have hin1 : k < n → ∃ ad, A = some ad ∧ w.cell? (ad.add k) = some (.int .i64 (xs[k]?.getD 0)) := fun h => by
      obtain ⟨ad, rfl, hc⟩ := hx.2 (by omega)
      exact ⟨ad, rfl, hc k h⟩
    obtain ⟨x, hxe⟩ : ∃ x, xs[k]?.getD 0 = x := ⟨_, rfl⟩
    rw [hxe] at hin1 hin2
    have E1 := Lib.hid (digA_in xs k x hxe)
    have E2 := Lib.hid (digB_in' xs k x hxe)
    clear hxe
    by_cases hlt : k < n + 4
    · by_cases hin : k < n
      · obtain ⟨ad, rfl, hc⟩ := hin1 hin
        clear hin1 hin2
        go_wp2_with fail
        refine (step_any _ _ _ _ _ _ (by omega) (by omega) (by omega) (by omega) (by omega) (by omega) (by omega) (by omega)).mono ?_
        rintro e w' ⟨he, rfl⟩
        rw [E1.out] at he
        subst he
        go_wp2_with fail
        refine (step_any _ _ _ _ _ _ (by omega) (by omega) (by omega) (by omega) (by omega) (by omega) (by omega) (by omega)).mono ?_
        rintro e w' ⟨he, rfl⟩
        rw [E2.out] at he
        subst he
        go_wp2
        go_round
        case rel => exact ⟨k + 1, by omega, by go_num, rfl, rfl⟩
        case measure => simp [intOf]; omega
      · obtain rfl := hin2 hin
        clear hin1 hin2
        go_wp2_with fail
        refine (step_any _ _ _ _ _ _ (by omega) (by omega) (by omega) (by omega) (by omega) (by omega) (by omega) (by omega)).mono ?_
        rintro e w' ⟨he, rfl⟩
        rw [E1.out] at he
        subst he
        go_wp2_with fail
        refine (step_any _ _ _ _ _ _ (by omega) (by omega) (by omega) (by omega) (by omega) (by omega) (by omega) (by omega)).mono ?_
        rintro e w' ⟨he, rfl⟩
        rw [E2.out] at he
        subst he
        go_wp2
        go_round
        case rel => exact ⟨k + 1, by omega, by go_num, rfl, rfl⟩
        case measure => simp [intOf]; omega
    · clear hin1 hin2
      go_wp2
      go_ret
      have hk : k = n + 4 := by omega
      exact ⟨ret_int (by unfold dig; rw [HL.out, hk]), rfl⟩

set_option maxHeartbeats 400000 in
theorem hMod_any (x p : Int) (w : World) (hp : 0 < p) (hp2 : p ≤ 2147483647) :
    Calls Try.prog 108 #[.int .i64 x, .int .i64 p] w fun e w' => e = .returned (.int .i64 (x % p)) ∧ w = w' := by
  have h0 := tmod_bd x p hp
  have H := Lib.hid (tmod_add x p hp)
  go_enter Try.func108, Try.ntmps108
  go_wp2
  go_ret
  exact ⟨ret_int H.out, rfl⟩

set_option maxHeartbeats 400000 in
theorem hInts_any (A : Option Addr) (n c : Nat) (xs : List Int) (w : World) (hx : Ints w A n xs) (hn : n ≤ 1000000) :
    Calls Try.prog 101 #[.slice A n c] w fun e w' => e = .returned (.int .i64 (dig xs)) ∧ w = w' := by
  have hl : xs.length = n := hx.1
  have HL := Lib.hid hl
  clear hl
  have HA := Lib.hid (digA_bd xs (by rw [HL.out]; omega))
  have HB := Lib.hid (digB_bd xs)
  go_enter Try.func101, Try.ntmps101
  go_wp2
  go_loop [3, 4, 5] (fun a b t => ∃ k : Nat, k ≤ n + 4 ∧ t = .int .i64 k ∧ a = .int .i64 (digA xs k) ∧ b = .int .i64 (digB xs k)) (fun _ _ t => n + 4 - (intOf t).toNat)
  case atStart => exact ⟨0, by omega, rfl, val_int (by simp only [digA]; rw [HL.out]), rfl⟩
  case round =>
    obtain ⟨k, hk, rfl, rfl, rfl⟩ := hrel
    have ha := HA.out k
    have hb := HB.out k
    have hs := HA.out (k + 1)
    have hin2 : ¬ k < n → xs[k]?.getD 0 = 0 := fun h => by rw [List.getElem?_eq_none (by rw [HL.out]; omega)]; rfl
    have hin1 : k < n → ∃ ad, A = some ad ∧ w.cell? (ad.add k) = some (.int .i64 (xs[k]?.getD 0)) := fun h => by
      obtain ⟨ad, rfl, hc⟩ := hx.2 (by omega)
      exact ⟨ad, rfl, hc k h⟩
    obtain ⟨x, hxe⟩ : ∃ x, xs[k]?.getD 0 = x := ⟨_, rfl⟩
    rw [hxe] at hin1 hin2
    have E1 := Lib.hid (digA_in xs k x hxe)
    have E2 := Lib.hid (digB_in xs k x hxe)
    have hm1 : 0 ≤ x % 2147483647 ∧ x % 2147483647 < 2147483647 := ⟨Int.emod_nonneg _ (by omega), Int.emod_lt_of_pos _ (by omega)⟩
    have hm2 : 0 ≤ x % 2147483629 ∧ x % 2147483629 < 2147483629 := ⟨Int.emod_nonneg _ (by omega), Int.emod_lt_of_pos _ (by omega)⟩
    clear hxe
    by_cases hlt : k < n + 4
    · by_cases hin : k < n
      · obtain ⟨ad, rfl, hc⟩ := hin1 hin
        clear hin1 hin2
        go_wp2_with fail
        refine (hMod_any _ _ _ (by omega) (by omega)).mono ?_
        rintro e w' ⟨rfl, rfl⟩
        go_wp2_with fail
        rw [E1.out]
        refine (hMod_any _ _ _ (by omega) (by omega)).mono ?_
        rintro e w' ⟨rfl, rfl⟩
        go_wp2
        rw [E2.out]
        go_round
        case rel => exact ⟨k + 1, by omega, by go_num, rfl, rfl⟩
        case measure => simp [intOf]; omega
      · obtain rfl := hin2 hin
        have F1 : Hid ((48271 * digA xs k + 1) % 2147483647 = digA xs (k + 1)) := by have := E1.out; rw [Int.zero_emod, Int.add_zero] at this; exact this
        have F2 : Hid ((69621 * digB xs k + digA xs (k + 1)) % 2147483629 = digB xs (k + 1)) := by have := E2.out; rw [Int.zero_emod, Int.add_zero] at this; exact this
        clear hin1 hin2 E1 E2
        go_wp2_with fail
        refine (hMod_any _ _ _ (by omega) (by omega)).mono ?_
        rintro e w' ⟨rfl, rfl⟩
        go_wp2_with fail
        rw [F1.out]
        refine (hMod_any _ _ _ (by omega) (by omega)).mono ?_
        rintro e w' ⟨rfl, rfl⟩
        go_wp2
        rw [F2.out]
        go_round
        case rel => exact ⟨k + 1, by omega, by go_num, rfl, rfl⟩
        case measure => simp [intOf]; omega
    · clear hin1 hin2
      go_wp2
      go_ret
      have hk : k = n + 4 := by omega
      exact ⟨ret_int (by unfold dig; rw [HL.out, hk]), rfl⟩
end

section
open Go.RowKit

/-- The range test, on a number and on a list. -/
def inR (n lo hi : Int) : Bool := decide (lo ≤ n ∧ n ≤ hi)
theorem inR_yes {n lo hi : Int} (h1 : lo ≤ n) (h2 : n ≤ hi) : inR n lo hi = true := by simp [inR, h1, h2]
theorem inR_no {n lo hi : Int} (h : ¬ (lo ≤ n ∧ n ≤ hi)) : inR n lo hi = false := by simpa [inR] using h
theorem inR_of {n lo hi : Int} (h : inR n lo hi = true) : lo ≤ n ∧ n ≤ hi := by simpa [inR] using h
def allR (xs : List Int) (lo hi : Int) : Bool := xs.all (fun x => inR x lo hi)
theorem allR_succ {xs : List Int} {lo hi : Int} {k : Nat} (hk : k < xs.length) (h : allR (xs.take k) lo hi = true) (hx : inR (xs[k]?.getD 0) lo hi = true) : allR (xs.take (k + 1)) lo hi = true := by
  rw [List.getElem?_eq_getElem hk] at hx
  simp only [allR] at *
  rw [List.take_succ_eq_append_getElem hk, List.all_append, h]
  simpa using hx
theorem allR_no {xs : List Int} {lo hi : Int} {k : Nat} (hk : k < xs.length) (hx : inR (xs[k]?.getD 0) lo hi = false) : allR xs lo hi = false := by
  rw [List.getElem?_eq_getElem hk] at hx
  simp only [allR, List.all_eq_false]
  exact ⟨xs[k], List.getElem_mem hk, by simpa using hx⟩
theorem allR_of {xs : List Int} {lo hi : Int} (h : allR xs lo hi = true) (k : Nat) (hk : k < xs.length) : lo ≤ xs[k]?.getD 0 ∧ xs[k]?.getD 0 ≤ hi := by
  simp only [allR, List.all_eq_true] at h
  rw [List.getElem?_eq_getElem hk]
  exact inR_of (h _ (List.getElem_mem hk))

set_option maxHeartbeats 400000 in
theorem isSeed_any (n : Int) (w : World) :
    Calls Try.prog 38 #[.int .i64 n] w fun e w' => e = .returned (.bool (inR n 0 4611686016279904236)) ∧ w = w' := by
  by_cases h1 : 0 ≤ n
  · by_cases h2 : n ≤ 4611686016279904236
    · have H := Lib.hid (inR_yes h1 h2)
      go_enter Try.func38, Try.ntmps38
      go_wp2
      go_ret
      exact ⟨ret_bool H.out.symm, rfl⟩
    · have H := Lib.hid (inR_no (lo := 0) (fun h => h2 h.2))
      go_enter Try.func38, Try.ntmps38
      go_wp2
      go_ret
      exact ⟨ret_bool H.out.symm, rfl⟩
  · have H := Lib.hid (inR_no (hi := 4611686016279904236) (fun h => h1 h.1))
    go_enter Try.func38, Try.ntmps38
    go_wp2
    go_ret
    exact ⟨ret_bool H.out.symm, rfl⟩

set_option maxHeartbeats 400000 in
theorem l1In_any (n lo hi : Int) (w : World) :
    Calls Try.prog 62 #[.int .i64 n, .int .i64 lo, .int .i64 hi] w fun e w' => e = .returned (.bool (inR n lo hi)) ∧ w = w' := by
  by_cases h1 : lo ≤ n
  · by_cases h2 : n ≤ hi
    · have H := Lib.hid (inR_yes h1 h2)
      go_enter Try.func62, Try.ntmps62
      go_wp2
      go_ret
      exact ⟨ret_bool H.out.symm, rfl⟩
    · have H := Lib.hid (inR_no (lo := lo) (fun h => h2 h.2))
      go_enter Try.func62, Try.ntmps62
      go_wp2
      go_ret
      exact ⟨ret_bool H.out.symm, rfl⟩
  · have H := Lib.hid (inR_no (hi := hi) (fun h => h1 h.1))
    go_enter Try.func62, Try.ntmps62
    go_wp2
    go_ret
    exact ⟨ret_bool H.out.symm, rfl⟩

set_option maxHeartbeats 400000 in
theorem l1All_any (A : Option Addr) (n c : Nat) (xs : List Int) (lo hi : Int) (w : World) (hx : Ints w A n xs) (hn : n ≤ 1099511627776) :
    Calls Try.prog 63 #[.slice A n c, .int .i64 lo, .int .i64 hi] w fun e w' => e = .returned (.bool (allR xs lo hi)) ∧ w = w' := by
  have hl := Lib.hid hx.1
  go_enter Try.func63, Try.ntmps63
  go_wp2
  go_loop [11] (fun t => ∃ k : Nat, k ≤ n ∧ t = .int .i64 k ∧ Hid (allR (xs.take k) lo hi = true)) (fun t => n - (intOf t).toNat)
  case atStart => exact ⟨0, Nat.zero_le _, rfl, Lib.hid rfl⟩
  case round =>
    obtain ⟨k, hk, rfl, hall⟩ := hrel
    by_cases hlt : k < n
    · obtain ⟨ad, rfl, hc⟩ := hx.at_ hlt
      clear hx
      have R1 := Lib.hid (allR_succ (lo := lo) (hi := hi) (k := k) (xs := xs) (by rw [hl.out]; exact hlt) hall.out)
      have R2 := Lib.hid (allR_no (lo := lo) (hi := hi) (k := k) (xs := xs) (by rw [hl.out]; exact hlt))
      obtain ⟨x, hxe⟩ : ∃ x, xs[k]?.getD 0 = x := ⟨_, rfl⟩
      rw [hxe] at hc R1 R2
      clear hxe
      go_wp2_with fail
      refine (l1In_any _ _ _ _).mono ?_
      rintro e w' ⟨rfl, rfl⟩
      cases hB : inR x lo hi
      · have R := Lib.hid (R2.out hB)
        clear R1 R2 hB
        go_wp2
        go_ret
        exact ⟨ret_bool R.out.symm, rfl⟩
      · have R := Lib.hid (R1.out hB)
        clear R1 R2 hB
        go_wp2
        go_round
        case rel => exact ⟨k + 1, by omega, by go_num, R⟩
        case measure => simp [intOf]; omega
    · have hkn : k = n := by omega
      have R := Lib.hid (show allR xs lo hi = true by have := hall.out; rwa [List.take_of_length_le (by rw [hl.out]; omega)] at this)
      clear hkn hx
      go_wp2
      go_ret
      exact ⟨ret_bool R.out.symm, rfl⟩

set_option maxHeartbeats 400000 in
theorem hDigest_any (A : Option Addr) (n c : Nat) (xs : List Int) (w : World) (hx : Ints w A n xs) (hn : n ≤ 1099511627776) :
    Calls Try.prog 26 #[.slice A n c] w fun e w' => e = .returned (.bool (allR xs 0 4611686016279904236)) ∧ w = w' := by
  go_enter Try.func26, Try.ntmps26
  go_wp2_with fail
  refine (l1All_any _ _ _ _ _ _ _ hx hn).mono ?_
  rintro e w' ⟨rfl, rfl⟩
  go_wp2
  go_ret
  exact ⟨rfl, rfl⟩

/-- What areSeeds tells. -/
def seedsB (xs : List Int) : Bool := decide (xs.length ≤ 392) && allR xs 0 4611686016279904236
theorem seedsB_yes {xs : List Int} (h : xs.length ≤ 392) (h2 : allR xs 0 4611686016279904236 = true) : seedsB xs = true := by simp [seedsB, h, h2]
theorem seedsB_long {xs : List Int} (h : ¬ xs.length ≤ 392) : seedsB xs = false := by simp [seedsB, h]
theorem seedsB_no {xs : List Int} (h2 : allR xs 0 4611686016279904236 = false) : seedsB xs = false := by simp [seedsB, h2]

/-- A slice that the call has just written out. -/
theorem own_new (w : World) (xs : List Int) (n : Nat) (hn : n = xs.length) (hm : n ≤ 1099511627776) : Own (w.alloc (.cells (xs.map (Value.int .i64)).toArray 3)) w.heap.size (some ⟨w.heap.size, 0, none⟩) n n xs := by
  have h := World.ownsRow_lit (e := 3) (size := 1) w (xs.map (Value.int .i64)).toArray n (Nat.le_refl _) (by unfold maxLen; omega) (by simp [hn])
  unfold Own
  simpa using h
theorem below_new (w : World) (o : Obj) : Below w.heap.size w (w.alloc o) := (Below.refl _ _).alloc (Nat.le_refl _) o

/-- Both are seeds. -/
def twoB (a b : Int) : Bool := inR a 0 4611686016279904236 && inR b 0 4611686016279904236
theorem twoB_all (a b : Int) : allR [a, b] 0 4611686016279904236 = twoB a b := by simp [allR, twoB]
theorem twoB_no1 {a b : Int} (h : inR a 0 4611686016279904236 = false) : twoB a b = false := by simp [twoB, h]
theorem twoB_and {a b : Int} (h : inR a 0 4611686016279904236 = true) : inR b 0 4611686016279904236 = twoB a b := by simp [twoB, h]
/-- What SealSeed returns. -/
def sealV (a b : Int) : Int := if twoB a b = true then dig [1, a, b] else 0
theorem sealV_yes {a b : Int} (h : twoB a b = true) : sealV a b = dig [1, a, b] := by rw [sealV, if_pos h]
theorem sealV_no {a b : Int} (h : twoB a b = false) : sealV a b = 0 := by rw [sealV, if_neg (by simp [h])]

theorem ret_two {a a' : Int} {b b' : Bool} (h1 : a = a') (h2 : b = b') : Ending.returned (.tuple #[.int .i64 a, .bool b]) = .returned (.tuple #[.int .i64 a', .bool b']) := by rw [h1, h2]
theorem ret_bools {a a' : Bool} {b b' : Bool} (h1 : a = a') (h2 : b = b') : Ending.returned (.tuple #[.bool a, .bool b]) = .returned (.tuple #[.bool a', .bool b']) := by rw [h1, h2]
end
end Go.Proofs.Ytcjmapdeopffcaa
