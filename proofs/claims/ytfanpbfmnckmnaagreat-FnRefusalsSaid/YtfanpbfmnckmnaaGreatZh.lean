/- The members of a small set of bits; lists compared; of the program and of the reference. -/
import Derived.Test.YtfanpbfmnckmnaaGreatClass
namespace Go.Proofs.YtfanpbfmnckmnaaGreat
open Go.RowKit

theorem and_1 (x : Int) (h0 : 0 ≤ x) (h1 : x < 9223372036854775808) : bits .and .i64 x 1 = x % 2 := by
  obtain ⟨n, rfl⟩ := Int.eq_ofNat_of_zero_le h0
  show IntKind.i64.wrap ((BitVec.ofInt 64 (n : Int) &&& BitVec.ofInt 64 1).toNat : Int) = _
  rw [BitVec.toNat_and, BitVec.ofInt_natCast, BitVec.toNat_ofNat, Nat.mod_eq_of_lt (by omega), show (BitVec.ofInt 64 1).toNat = 1 from rfl, Nat.and_one_is_mod, IntKind.wrap_i64]
  omega
def memP (x : Int) (t : Nat) : Bool := decide (x / 2 ^ t % 2 = 1)
def memV (x : Int) : List Int := linkK (memP x) 6
theorem div_pow {x : Int} (h0 : 0 ≤ x) (t : Nat) : 0 ≤ x / 2 ^ t ∧ x / 2 ^ t ≤ x := by
  have hp : (0 : Int) < 2 ^ t := Int.pow_pos (by omega)
  exact ⟨Int.ediv_nonneg h0 (by omega), Int.ediv_le_self _ h0⟩
theorem div_pow_succ (x : Int) (t : Nat) : x / 2 ^ (t + 1) = x / 2 ^ t / 2 := by
  rw [Int.pow_succ, Int.ediv_ediv_of_nonneg (Int.le_of_lt (Int.pow_pos (by omega)))]
theorem div_pow_zero {x : Int} {j : Nat} (h : x / 2 ^ j = 0) : ∀ t, j ≤ t → x / 2 ^ t = 0 := by
  intro t
  induction t with
  | zero => intro ht; obtain rfl : j = 0 := by omega
            exact h
  | succ t ih =>
    intro ht
    rcases Nat.lt_or_ge t j with h1 | h1
    · obtain rfl : j = t + 1 := by omega
      exact h
    · rw [div_pow_succ, ih h1]; rfl
theorem memP_zero {x : Int} {j t : Nat} (h : x / 2 ^ j = 0) (ht : j ≤ t) : memP x t = false := by
  unfold memP; rw [div_pow_zero h t ht]; rfl
theorem link_stop {p : Nat → Bool} {j : Nat} (h : ∀ t, j ≤ t → p t = false) : ∀ k, linkK p (j + k) = linkK p j := by
  intro k
  induction k with
  | zero => rfl
  | succ k ih => rw [← Nat.add_assoc, linkK_no (h _ (by omega)), ih]
theorem memV_stop {x : Int} {j : Nat} (h : x / 2 ^ j = 0) (hj : j ≤ 6) : linkK (memP x) j = memV x := by
  have := link_stop (p := memP x) (fun t ht => memP_zero h ht) (6 - j)
  rw [show j + (6 - j) = 6 by omega] at this
  exact this.symm
theorem div_small {x : Int} {n : Nat} (h0 : 0 ≤ x) (h1 : x < 2 ^ n) : x / 2 ^ n = 0 := Int.ediv_eq_zero_of_lt h0 h1
theorem linkK_at {p : Nat → Bool} {n i : Nat} (h : i < (linkK p n).length) : ∃ t, t < n ∧ (linkK p n)[i]?.getD 0 = (t : Int) ∧ ((List.range n).filter p)[i]? = some t := by
  have hl : (linkK p n).length = ((List.range n).filter p).length := by simp [linkK]
  have hi : i < ((List.range n).filter p).length := by omega
  refine ⟨((List.range n).filter p)[i], ?_, ?_, List.getElem?_eq_getElem hi⟩
  · have := List.getElem_mem hi
    rw [List.mem_filter, List.mem_range] at this
    exact this.1
  · simp only [linkK, List.getElem?_map, List.getElem?_eq_getElem hi]; rfl
theorem linkK_ris (p : Nat → Bool) (n : Nat) : risB (linkK p n) n = true := by
  refine allTo_yes fun i hi => ?_
  obtain ⟨t, ht, e, eg⟩ := linkK_at hi
  refine risOk_yes (by omega) (by omega) fun h0 => ?_
  obtain ⟨s, hs, e2, eg2⟩ := linkK_at (show i - 1 < (linkK p n).length by omega)
  rw [e, e2]
  have hp : List.Pairwise (· < ·) ((List.range n).filter p) := List.Pairwise.filter _ List.pairwise_lt_range
  obtain ⟨h1, h1'⟩ := List.getElem?_eq_some_iff.1 eg
  obtain ⟨h2, h2'⟩ := List.getElem?_eq_some_iff.1 eg2
  have := List.pairwise_iff_getElem.1 hp (i - 1) i h2 h1 (by omega)
  rw [h1', h2'] at this
  omega
theorem memV_ris {x : Int} {n : Nat} (h0 : 0 ≤ x) (h1 : x < 2 ^ n) (hn : n ≤ 6) : risB (memV x) n = true := by
  rw [← memV_stop (div_small h0 h1) hn]
  exact linkK_ris _ _

/-- xs comes ahead of ys. -/
def LexLt (xs ys : List Int) : Prop := (∃ k, k < xs.length ∧ k < ys.length ∧ (∀ t, t < k → xs[t]?.getD 0 = ys[t]?.getD 0) ∧ xs[k]?.getD 0 < ys[k]?.getD 0) ∨ ((∀ t, t < xs.length → t < ys.length → xs[t]?.getD 0 = ys[t]?.getD 0) ∧ xs.length < ys.length)
theorem lex_yes {xs ys : List Int} {n m k : Nat} (hx : xs.length = n) (hy : ys.length = m) (h1 : k < n) (h2 : k < m) (he : ∀ t, t < k → xs[t]?.getD 0 = ys[t]?.getD 0) (hl : xs[k]?.getD 0 < ys[k]?.getD 0) : LexLt xs ys := .inl ⟨k, by omega, by omega, he, hl⟩
theorem lex_no {xs ys : List Int} {n m k : Nat} (hx : xs.length = n) (hy : ys.length = m) (h1 : k < n) (h2 : k < m) (he : ∀ t, t < k → xs[t]?.getD 0 = ys[t]?.getD 0) (hl : ys[k]?.getD 0 < xs[k]?.getD 0) : ¬ LexLt xs ys := by
  rintro (⟨k', h3, h4, he', hl'⟩ | ⟨he', _⟩)
  · rcases Nat.lt_trichotomy k' k with h | h | h
    · have := he k' h; omega
    · subst h; omega
    · have := he' k h; omega
  · have := he' k (by omega) (by omega); omega
theorem lex_end {xs ys : List Int} {n m k : Nat} (hx : xs.length = n) (hy : ys.length = m) (h : k = n ∨ k = m) (he : ∀ t, t < k → xs[t]?.getD 0 = ys[t]?.getD 0) (_hk : k ≤ n ∧ k ≤ m) : LexLt xs ys ↔ n < m := by
  constructor
  · rintro (⟨k', h3, h4, he', hl'⟩ | ⟨_, hl⟩)
    · have := he k' (by omega); omega
    · omega
  · intro hlt
    exact .inr ⟨fun t h1 h2 => he t (by omega), by omega⟩
/-- A number that tells which list comes ahead. -/
def Told (w : World) (xs ys : List Int) (e : Ending) (w' : World) : Prop := ∃ r : Int, e = .returned (.int .i64 r) ∧ (r < 0 ↔ LexLt xs ys) ∧ Below w.heap.size w w'

def signV (x : Int) : Int := if x < 0 then -1 else if 0 < x then 1 else 0
set_option maxHeartbeats 400000 in
theorem l1Sign_any (x : Int) (w : World) : Calls Tryz.prog 215 #[.int .i64 x] w fun e w' => e = .returned (.int .i64 (signV x)) ∧ w = w' := by
  by_cases h1 : x < 0
  · have R := Lib.hid (show (-1 : Int) = signV x by unfold signV; rw [if_pos h1])
    go_enter Tryz.func215, Tryz.ntmps215
    go_wp2
    go_ret
    exact ⟨ret_int R.out, rfl⟩
  · by_cases h2 : 0 < x
    · have R := Lib.hid (show (1 : Int) = signV x by unfold signV; rw [if_neg h1, if_pos h2])
      go_enter Tryz.func215, Tryz.ntmps215
      go_wp2
      go_ret
      exact ⟨ret_int R.out, rfl⟩
    · have R := Lib.hid (show (0 : Int) = signV x by unfold signV; rw [if_neg h1, if_neg h2])
      go_enter Tryz.func215, Tryz.ntmps215
      go_wp2
      go_ret
      exact ⟨ret_int R.out, rfl⟩

/-- A list has a number. -/
def hasB (xs : List Int) (v : Int) : Bool := !allTo (fun i => decide (xs[i]?.getD 0 ≠ v)) xs.length
theorem hasB_yes {xs : List Int} {v : Int} {n k : Nat} (hl : xs.length = n) (hk : k < n) (h : xs[k]?.getD 0 = v) : hasB xs v = true := by
  unfold hasB; rw [allTo_no (i := k) (by omega) (by simp [h])]; rfl
theorem hasB_no {xs : List Int} {v : Int} {n : Nat} (hl : xs.length = n) (h : ∀ k, k < n → xs[k]?.getD 0 ≠ v) : hasB xs v = false := by
  unfold hasB; rw [allTo_yes (fun i hi => by simpa using h i (by omega))]; rfl

set_option maxHeartbeats 1000000 in
theorem l1Has_any (A : Option Addr) (n c : Nat) (v : Int) (xs : List Int) (w : World) (hx : IntR w A n xs) :
    Calls Tryz.prog 162 #[.slice A n c, .int .i64 v] w fun e w' => e = .returned (.bool (hasB xs v)) ∧ w = w' := by
  have hn := hx.bd
  have hl := Lib.hid hx.len
  go_enter Tryz.func162, Tryz.ntmps162
  go_wp2
  go_loop [9] (fun i => ∃ k : Nat, k ≤ n ∧ i = .int .i64 k ∧ Hid (∀ t, t < k → xs[t]?.getD 0 ≠ v)) (fun i => n - (intOf i).toNat)
  case atStart => exact ⟨0, Nat.zero_le _, rfl, Lib.hid fun t ht => absurd ht (by omega)⟩
  case round =>
    obtain ⟨k, hk, rfl, he⟩ := hrel
    by_cases hlt : k < n
    · obtain ⟨ad, rfl, hc⟩ := hx.i.at_ hlt
      have Y := Lib.hid (hasB_yes (v := v) hl.out hlt)
      have E := Lib.hid (fun h => all_succ (p := fun t => xs[t]?.getD 0 ≠ v) he.out h)
      clear hx
      generalize xs[k]?.getD 0 = x at *
      by_cases h1 : x = v
      · have R := Lib.hid (Y.out h1).symm
        have hq : (x == v) = true := by simp [h1]
        clear h1
        go_wp2
        go_ret
        exact ⟨ret_bool R.out, rfl⟩
      · have R := Lib.hid (E.out h1)
        have hq : (x == v) = false := by simp [h1]
        clear h1
        go_wp2
        go_round
        case rel => exact ⟨k + 1, by omega, by go_num, R⟩
        case measure => simp [intOf]; omega
    · obtain rfl : k = n := by omega
      have R := Lib.hid (hasB_no hl.out he.out).symm
      clear hx
      go_wp2
      go_ret
      exact ⟨ret_bool R.out, rfl⟩

set_option maxHeartbeats 1000000 in
theorem slIndex_any (A : Option Addr) (n c : Nat) (v : Int) (xs : List Int) (w : World) (hx : IntR w A n xs) :
    Calls Tryz.prog 198 #[.slice A n c, .int .i64 v] w fun e w' => (∃ r : Int, e = .returned (.int .i64 r) ∧ (0 ≤ r ↔ hasB xs v = true)) ∧ w = w' := by
  have hn := hx.bd
  have hl := Lib.hid hx.len
  go_enter Tryz.func198, Tryz.ntmps198
  go_wp2
  go_loop [8] (fun i => ∃ k : Nat, k ≤ n ∧ i = .int .i64 k ∧ Hid (∀ t, t < k → xs[t]?.getD 0 ≠ v)) (fun i => n - (intOf i).toNat)
  case atStart => exact ⟨0, Nat.zero_le _, rfl, Lib.hid fun t ht => absurd ht (by omega)⟩
  case round =>
    obtain ⟨k, hk, rfl, he⟩ := hrel
    by_cases hlt : k < n
    · obtain ⟨ad, rfl, hc⟩ := hx.i.at_ hlt
      have Y := Lib.hid (hasB_yes (v := v) hl.out hlt)
      have E := Lib.hid (fun h => all_succ (p := fun t => xs[t]?.getD 0 ≠ v) he.out h)
      clear hx
      generalize xs[k]?.getD 0 = x at *
      by_cases h1 : x = v
      · have R := Lib.hid (Y.out h1)
        have hq : (v == x) = true := by simp [h1]
        clear h1
        go_wp2
        go_ret
        exact ⟨⟨_, rfl, ⟨fun _ => R.out, fun _ => by omega⟩⟩, rfl⟩
      · have R := Lib.hid (E.out h1)
        have hq : (v == x) = false := by simp [Ne.symm h1]
        clear h1
        go_wp2
        go_round
        case rel => exact ⟨k + 1, by omega, by go_num, R⟩
        case measure => simp [intOf]; omega
    · obtain rfl : k = n := by omega
      have R := Lib.hid (hasB_no hl.out he.out)
      clear hx
      go_wp2
      go_ret
      exact ⟨⟨_, rfl, ⟨fun h => absurd h (by omega), fun h => by rw [R.out] at h; cases h⟩⟩, rfl⟩

set_option maxHeartbeats 1000000 in
theorem contains_any (A : Option Addr) (n c : Nat) (v : Int) (xs : List Int) (w : World) (hx : IntR w A n xs) :
    Calls Tryz.prog 166 #[.slice A n c, .int .i64 v] w fun e w' => e = .returned (.bool (hasB xs v)) ∧ w = w' := by
  go_enter Tryz.func166, Tryz.ntmps166
  go_wp2_with fail
  refine (slIndex_any _ n _ v xs _ hx).mono ?_
  rintro e w1 ⟨⟨r, rfl, hr⟩, rfl⟩
  have R := Lib.hid (show decide (0 ≤ r) = hasB xs v by
    cases h : hasB xs v
    · exact decide_eq_false (fun h' => by rw [hr.1 h'] at h; cases h)
    · exact decide_eq_true (hr.2 h))
  clear hr hx
  go_wp2
  go_ret
  exact ⟨ret_bool R.out, rfl⟩
end Go.Proofs.YtfanpbfmnckmnaaGreat
