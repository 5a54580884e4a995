/- Several small texts in one: Hash, Seal, GetD. -/
import Derived.Test.YtfanpbfmnckmnaaGreatRows
import Derived.Test.YtfanpbfmnckmnaaGreatPlain
import Derived.Test.YtfanpbfmnckmnaaGreatZa
import Derived.WalkKit
import Derived.WalkSpells
import Derived.WalkLawsBesides
namespace Go.Proofs.YtfanpbfmnckmnaaGreat

section
open Go.RowKit
end

section
open Go.RowKit

/-- The range test, on a number and on a list. -/
def inR (n lo hi : Int) : Bool := decide (lo ≤ n ∧ n ≤ hi)
theorem inR_yes {n lo hi : Int} (h1 : lo ≤ n) (h2 : n ≤ hi) : inR n lo hi = true := by simp [inR, h1, h2]
theorem inR_no {n lo hi : Int} (h : ¬ (lo ≤ n ∧ n ≤ hi)) : inR n lo hi = false := by simpa [inR] using h
theorem inR_of {n lo hi : Int} (h : inR n lo hi = true) : lo ≤ n ∧ n ≤ hi := by simpa [inR] using h
def allR (xs : List Int) (lo hi : Int) : Bool := xs.all (fun x => inR x lo hi)
theorem allR_succ {xs : List Int} {lo hi : Int} {k : Nat} (hk : k < xs.length) (h : allR (xs.take k) lo hi = true) (hx : inR (xs[k]?.getD 0) lo hi = true) : allR (xs.take (k + 1)) lo hi = true := by
  rw [List.getElem?_eq_getElem hk] at hx
  simp only [allR] at *
  rw [List.take_succ_eq_append_getElem hk, List.all_append, h]
  simpa using hx
theorem allR_no {xs : List Int} {lo hi : Int} {k : Nat} (hk : k < xs.length) (hx : inR (xs[k]?.getD 0) lo hi = false) : allR xs lo hi = false := by
  rw [List.getElem?_eq_getElem hk] at hx
  simp only [allR, List.all_eq_false]
  exact ⟨xs[k], List.getElem_mem hk, by simpa using hx⟩
theorem allR_of {xs : List Int} {lo hi : Int} (h : allR xs lo hi = true) (k : Nat) (hk : k < xs.length) : lo ≤ xs[k]?.getD 0 ∧ xs[k]?.getD 0 ≤ hi := by
  simp only [allR, List.all_eq_true] at h
  rw [List.getElem?_eq_getElem hk]
  exact inR_of (h _ (List.getElem_mem hk))

set_option maxHeartbeats 400000 in
theorem l1In_any (n lo hi : Int) (w : World) :
    Calls Tryz.prog 108 #[.int .i64 n, .int .i64 lo, .int .i64 hi] w fun e w' => e = .returned (.bool (inR n lo hi)) ∧ w = w' := by
  by_cases h1 : lo ≤ n
  · by_cases h2 : n ≤ hi
    · have H := Lib.hid (inR_yes h1 h2)
      go_enter Tryz.func108, Tryz.ntmps108
      go_wp2
      go_ret
      exact ⟨ret_bool H.out.symm, rfl⟩
    · have H := Lib.hid (inR_no (lo := lo) (fun h => h2 h.2))
      go_enter Tryz.func108, Tryz.ntmps108
      go_wp2
      go_ret
      exact ⟨ret_bool H.out.symm, rfl⟩
  · have H := Lib.hid (inR_no (hi := hi) (fun h => h1 h.1))
    go_enter Tryz.func108, Tryz.ntmps108
    go_wp2
    go_ret
    exact ⟨ret_bool H.out.symm, rfl⟩

set_option maxHeartbeats 400000 in
theorem l1All_any (A : Option Addr) (n c : Nat) (xs : List Int) (lo hi : Int) (w : World) (hx : Ints w A n xs) (hn : n ≤ 1099511627776) :
    Calls Tryz.prog 89 #[.slice A n c, .int .i64 lo, .int .i64 hi] w fun e w' => e = .returned (.bool (allR xs lo hi)) ∧ w = w' := by
  have hl := Lib.hid hx.1
  go_enter Tryz.func89, Tryz.ntmps89
  go_wp2
  go_loop [11] (fun t => ∃ k : Nat, k ≤ n ∧ t = .int .i64 k ∧ Hid (allR (xs.take k) lo hi = true)) (fun t => n - (intOf t).toNat)
  case atStart => exact ⟨0, Nat.zero_le _, rfl, Lib.hid rfl⟩
  case round =>
    obtain ⟨k, hk, rfl, hall⟩ := hrel
    by_cases hlt : k < n
    · obtain ⟨ad, rfl, hc⟩ := hx.at_ hlt
      clear hx
      have R1 := Lib.hid (allR_succ (lo := lo) (hi := hi) (k := k) (xs := xs) (by rw [hl.out]; exact hlt) hall.out)
      have R2 := Lib.hid (allR_no (lo := lo) (hi := hi) (k := k) (xs := xs) (by rw [hl.out]; exact hlt))
      obtain ⟨x, hxe⟩ : ∃ x, xs[k]?.getD 0 = x := ⟨_, rfl⟩
      rw [hxe] at hc R1 R2
      clear hxe
      go_wp2_with fail
      refine (l1In_any _ _ _ _).mono ?_
      rintro e w' ⟨rfl, rfl⟩
      cases hB : inR x lo hi
      · have R := Lib.hid (R2.out hB)
        clear R1 R2 hB
        go_wp2
        go_ret
        exact ⟨ret_bool R.out.symm, rfl⟩
      · have R := Lib.hid (R1.out hB)
        clear R1 R2 hB
        go_wp2
        go_round
        case rel => exact ⟨k + 1, by omega, by go_num, R⟩
        case measure => simp [intOf]; omega
    · have hkn : k = n := by omega
      have R := Lib.hid (show allR xs lo hi = true by have := hall.out; rwa [List.take_of_length_le (by rw [hl.out]; omega)] at this)
      clear hkn hx
      go_wp2
      go_ret
      exact ⟨ret_bool R.out.symm, rfl⟩

/-- What areSeeds tells. -/
def seedsB (xs : List Int) : Bool := decide (xs.length ≤ 392) && allR xs 0 4611686016279904236
theorem seedsB_yes {xs : List Int} (h : xs.length ≤ 392) (h2 : allR xs 0 4611686016279904236 = true) : seedsB xs = true := by simp [seedsB, h, h2]
theorem seedsB_long {xs : List Int} (h : ¬ xs.length ≤ 392) : seedsB xs = false := by simp [seedsB, h]
theorem seedsB_no {xs : List Int} (h2 : allR xs 0 4611686016279904236 = false) : seedsB xs = false := by simp [seedsB, h2]

/-- A slice that the call has just written out. -/
theorem own_new (w : World) (xs : List Int) (n : Nat) (hn : n = xs.length) (hm : n ≤ 1099511627776) : Own (w.alloc (.cells (xs.map (Value.int .i64)).toArray 3)) w.heap.size (some ⟨w.heap.size, 0, none⟩) n n xs := by
  have h := World.ownsRow_lit (e := 3) (size := 1) w (xs.map (Value.int .i64)).toArray n (Nat.le_refl _) (by unfold maxLen; omega) (by simp [hn])
  unfold Own
  simpa using h
theorem below_new (w : World) (o : Obj) : Below w.heap.size w (w.alloc o) := (Below.refl _ _).alloc (Nat.le_refl _) o

/-- Both are seeds. -/
def twoB (a b : Int) : Bool := inR a 0 4611686016279904236 && inR b 0 4611686016279904236
theorem twoB_all (a b : Int) : allR [a, b] 0 4611686016279904236 = twoB a b := by simp [allR, twoB]
theorem twoB_no1 {a b : Int} (h : inR a 0 4611686016279904236 = false) : twoB a b = false := by simp [twoB, h]
theorem twoB_and {a b : Int} (h : inR a 0 4611686016279904236 = true) : inR b 0 4611686016279904236 = twoB a b := by simp [twoB, h]
/-- What SealSeed returns. -/
def sealV (a b : Int) : Int := if twoB a b = true then dig [1, a, b] else 0
theorem sealV_yes {a b : Int} (h : twoB a b = true) : sealV a b = dig [1, a, b] := by rw [sealV, if_pos h]
theorem sealV_no {a b : Int} (h : twoB a b = false) : sealV a b = 0 := by rw [sealV, if_neg (by simp [h])]

theorem ret_two {a a' : Int} {b b' : Bool} (h1 : a = a') (h2 : b = b') : Ending.returned (.tuple #[.int .i64 a, .bool b]) = .returned (.tuple #[.int .i64 a', .bool b']) := by rw [h1, h2]
theorem ret_bools {a a' : Bool} {b b' : Bool} (h1 : a = a') (h2 : b = b') : Ending.returned (.tuple #[.bool a, .bool b]) = .returned (.tuple #[.bool a', .bool b']) := by rw [h1, h2]
end

section
theorem getD_set {xs : List Int} {i t : Nat} {v : Int} : (xs.set i v)[t]?.getD 0 = if i = t ∧ t < xs.length then v else xs[t]?.getD 0 := by
  rw [List.getElem?_set]
  by_cases e : i = t
  · subst e
    by_cases h : i < xs.length
    · simp [h]
    · simp [h]
  · simp [e]
end
end Go.Proofs.YtfanpbfmnckmnaaGreat
