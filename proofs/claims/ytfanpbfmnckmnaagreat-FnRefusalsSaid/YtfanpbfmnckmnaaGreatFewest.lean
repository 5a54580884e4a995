/- FewestIn, of the reference and of the program. -/
import Derived.Test.YtfanpbfmnckmnaaGreatYw
import Derived.Test.YtfanpbfmnckmnaaGreatZa
namespace Go.Proofs.YtfanpbfmnckmnaaGreat
open Go.RowKit

/-- The least positive number so far. -/
def fewS (b v : Int) : Int := if 0 < v ∧ (b = 0 ∨ v < b) then v else b
def fewO (xs : List Int) : Nat → Int
  | 0 => 0
  | k + 1 => fewS (fewO xs k) (xs[k]?.getD 0)
theorem fewO_in (xs : List Int) (k : Nat) (b x : Int) (hb : fewO xs k = b) (h : xs[k]?.getD 0 = x) : fewO xs (k + 1) = fewS b x := by rw [← h, ← hb]; rfl
theorem fewS_yes {b v : Int} (h1 : 0 < v) (h2 : b = 0 ∨ v < b) : fewS b v = v := by unfold fewS; rw [if_pos ⟨h1, h2⟩]
theorem fewS_no {b v : Int} (h : ¬ (0 < v ∧ (b = 0 ∨ v < b))) : fewS b v = b := by unfold fewS; rw [if_neg h]

set_option maxHeartbeats 400000 in
theorem areWithin_any (A : Option Addr) (n c : Nat) (xs : List Int) (lo hi : Int) (w : World) (hx : Ints w A n xs) (hn : n ≤ 1099511627776) :
    Calls Tryz.prog 87 #[.slice A n c, .int .i64 lo, .int .i64 hi] w fun e w' => e = .returned (.bool (allR xs lo hi)) ∧ w = w' := by
  have hl := Lib.hid hx.1
  go_enter Tryz.func87, Tryz.ntmps87
  go_wp2
  go_loop [11] (fun t => ∃ k : Nat, k ≤ n ∧ t = .int .i64 k ∧ Hid (allR (xs.take k) lo hi = true)) (fun t => n - (intOf t).toNat)
  case atStart => exact ⟨0, Nat.zero_le _, rfl, Lib.hid rfl⟩
  case round =>
    obtain ⟨k, hk, rfl, hall⟩ := hrel
    by_cases hlt : k < n
    · obtain ⟨ad, rfl, hc⟩ := hx.at_ hlt
      clear hx
      have R1 := Lib.hid (allR_succ (lo := lo) (hi := hi) (k := k) (xs := xs) (by rw [hl.out]; exact hlt) hall.out)
      have R2 := Lib.hid (allR_no (lo := lo) (hi := hi) (k := k) (xs := xs) (by rw [hl.out]; exact hlt))
      obtain ⟨x, hxe⟩ : ∃ x, xs[k]?.getD 0 = x := ⟨_, rfl⟩
      rw [hxe] at hc R1 R2
      clear hxe
      by_cases h1 : x < lo
      · have R := Lib.hid (R2.out (inR_no (by omega)))
        clear R1 R2
        go_wp2
        go_ret
        exact ⟨ret_bool R.out.symm, rfl⟩
      · by_cases h2 : hi < x
        · have R := Lib.hid (R2.out (inR_no (by omega)))
          clear R1 R2
          go_wp2
          go_ret
          exact ⟨ret_bool R.out.symm, rfl⟩
        · have R := Lib.hid (R1.out (inR_yes (by omega) (by omega)))
          clear R1 R2
          go_wp2
          go_round
          case rel => exact ⟨k + 1, by omega, by go_num, R⟩
          case measure => simp [intOf]; omega
    · have R := Lib.hid (show allR xs lo hi = true by have := hall.out; rwa [List.take_of_length_le (by rw [hl.out]; omega)] at this)
      clear hx
      go_wp2
      go_ret
      exact ⟨ret_bool R.out.symm, rfl⟩

set_option maxHeartbeats 400000 in
theorem jFewest_any (A : Option Addr) (n c : Nat) (xs : List Int) (w : World) (hx : Ints w A n xs) (hn : n ≤ 1099511627776) :
    Calls Tryz.prog 90 #[.slice A n c] w fun e w' => e = .returned (.int .i64 (fewO xs n)) ∧ w = w' := by
  go_enter Tryz.func90, Tryz.ntmps90
  go_wp2
  go_loop [3, 8] (fun v i => ∃ k : Nat, k ≤ n ∧ i = .int .i64 k ∧ v = .int .i64 (fewO xs k)) (fun _ i => n - (intOf i).toNat)
  case atStart => exact ⟨0, Nat.zero_le _, rfl, rfl⟩
  case round =>
    obtain ⟨k, hk, rfl, rfl⟩ := hrel
    by_cases hlt : k < n
    · obtain ⟨ad, rfl, hc⟩ := hx.at_ hlt
      clear hx
      obtain ⟨x, hxe⟩ : ∃ x, xs[k]?.getD 0 = x := ⟨_, rfl⟩
      obtain ⟨b, hbe⟩ : ∃ b, fewO xs k = b := ⟨_, rfl⟩
      have E := Lib.hid (fewO_in xs k b x hbe hxe)
      rw [hxe] at hc
      rw [hbe]
      clear hxe hbe
      by_cases h1 : 0 < x
      · by_cases h2 : b = 0
        · subst h2
          have R := Lib.hid (E.out.trans (fewS_yes h1 (.inl rfl)))
          go_wp2
          go_round
          case rel => exact ⟨k + 1, by omega, by go_num, by rw [R.out]⟩
          case measure => simp [intOf]; omega
        · have hb : (b == 0) = false := by rw [beq_eq_false_iff_ne]; exact h2
          by_cases h3 : x < b
          · have R := Lib.hid (E.out.trans (fewS_yes h1 (.inr h3)))
            clear h2
            go_wp2
            go_round
            case rel => exact ⟨k + 1, by omega, by go_num, by rw [R.out]⟩
            case measure => simp [intOf]; omega
          · have R := Lib.hid (E.out.trans (fewS_no (by omega)))
            clear h2
            go_wp2
            go_round
            case rel => exact ⟨k + 1, by omega, by go_num, by rw [R.out]⟩
            case measure => simp [intOf]; omega
      · have R := Lib.hid (E.out.trans (fewS_no (by omega)))
        go_wp2
        go_round
        case rel => exact ⟨k + 1, by omega, by go_num, by rw [R.out]⟩
        case measure => simp [intOf]; omega
    · obtain rfl : n = k := by omega
      clear hx
      go_wp2
      go_ret
      exact ⟨rfl, rfl⟩

set_option maxHeartbeats 400000 in
theorem fewest_any (A : Option Addr) (n c : Nat) (xs : List Int) (w : World) (hx : Ints w A n xs) (hn : n ≤ 1099511627776) :
    Calls Tryz.prog 88 #[.slice A n c] w fun e w' => e = .returned (.int .i64 (fewO xs n)) ∧ w = w' := by
  go_enter Tryz.func88, Tryz.ntmps88
  go_wp2
  go_loop [3, 8] (fun v i => ∃ k : Nat, k ≤ n ∧ i = .int .i64 k ∧ v = .int .i64 (fewO xs k)) (fun _ i => n - (intOf i).toNat)
  case atStart => exact ⟨0, Nat.zero_le _, rfl, rfl⟩
  case round =>
    obtain ⟨k, hk, rfl, rfl⟩ := hrel
    by_cases hlt : k < n
    · obtain ⟨ad, rfl, hc⟩ := hx.at_ hlt
      clear hx
      obtain ⟨x, hxe⟩ : ∃ x, xs[k]?.getD 0 = x := ⟨_, rfl⟩
      obtain ⟨b, hbe⟩ : ∃ b, fewO xs k = b := ⟨_, rfl⟩
      have E := Lib.hid (fewO_in xs k b x hbe hxe)
      rw [hxe] at hc
      rw [hbe]
      clear hxe hbe
      by_cases h1 : 0 < x
      · by_cases h2 : b = 0
        · subst h2
          have R := Lib.hid (E.out.trans (fewS_yes h1 (.inl rfl)))
          go_wp2
          go_round
          case rel => exact ⟨k + 1, by omega, by go_num, by rw [R.out]⟩
          case measure => simp [intOf]; omega
        · have hb : (b == 0) = false := by rw [beq_eq_false_iff_ne]; exact h2
          by_cases h3 : x < b
          · have R := Lib.hid (E.out.trans (fewS_yes h1 (.inr h3)))
            clear h2
            go_wp2
            go_round
            case rel => exact ⟨k + 1, by omega, by go_num, by rw [R.out]⟩
            case measure => simp [intOf]; omega
          · have R := Lib.hid (E.out.trans (fewS_no (by omega)))
            clear h2
            go_wp2
            go_round
            case rel => exact ⟨k + 1, by omega, by go_num, by rw [R.out]⟩
            case measure => simp [intOf]; omega
      · have R := Lib.hid (E.out.trans (fewS_no (by omega)))
        go_wp2
        go_round
        case rel => exact ⟨k + 1, by omega, by go_num, by rw [R.out]⟩
        case measure => simp [intOf]; omega
    · obtain rfl : n = k := by omega
      clear hx
      go_wp2
      go_ret
      exact ⟨rfl, rfl⟩

/-- What FewestIn returns. -/
def fewB (xs : List Int) : Bool := decide (xs.length ≤ 600) && allR xs 0 1000000
def fewV (xs : List Int) : Int := if fewB xs = true then fewO xs xs.length else 0
theorem few_1 {xs : List Int} (h : ¬ xs.length ≤ 600) : fewV xs = 0 ∧ fewB xs = false := by
  have hb : fewB xs = false := by unfold fewB; rw [decide_eq_false h]; rfl
  exact ⟨by unfold fewV; rw [if_neg (by simp [hb])], hb⟩
theorem few_2 {xs : List Int} (h : allR xs 0 1000000 = false) : fewV xs = 0 ∧ fewB xs = false := by
  have hb : fewB xs = false := by simp [fewB, h]
  exact ⟨by unfold fewV; rw [if_neg (by simp [hb])], hb⟩
theorem few_3 {xs : List Int} {n : Nat} (hn : xs.length = n) (h : n ≤ 600) (h2 : allR xs 0 1000000 = true) : fewV xs = fewO xs n ∧ fewB xs = true := by
  subst hn
  have hb : fewB xs = true := by unfold fewB; rw [decide_eq_true h, h2]; rfl
  exact ⟨by unfold fewV; rw [if_pos hb], hb⟩

set_option maxHeartbeats 400000 in
theorem specFewestIn_law (A : Option Addr) (n c : Nat) (xs : List Int) (w : World) (hx : Ints w A n xs) (hn : n ≤ 1099511627776) :
    Calls Tryz.prog 35 #[.slice A n c] w fun e w' => e = .returned (.tuple #[.int .i64 (fewV xs), .bool (fewB xs)]) ∧ Below w.heap.size w w' := by
  have hl := Lib.hid hx.1
  by_cases h : n ≤ 600
  · go_enter Tryz.func35, Tryz.ntmps35
    go_wp2_with fail
    refine (l1All_any _ _ _ _ _ _ _ hx hn).mono ?_
    rintro e w' ⟨rfl, rfl⟩
    cases hA : allR xs 0 1000000
    · have R := Lib.hid (few_2 hA)
      clear hA
      go_wp2
      go_ret2
      exact ⟨ret_two R.out.1.symm R.out.2.symm, Below.refl _ _⟩
    · have R := Lib.hid (few_3 hl.out h hA)
      clear hA
      go_wp2_with fail
      refine (jFewest_any _ _ _ _ _ hx hn).mono ?_
      rintro e w' ⟨rfl, rfl⟩
      go_wp2
      go_ret2
      exact ⟨ret_two R.out.1.symm R.out.2.symm, Below.refl _ _⟩
  · have R := Lib.hid (few_1 (xs := xs) (by rw [hl.out]; exact h))
    go_enter Tryz.func35, Tryz.ntmps35
    go_wp2
    go_ret2
    exact ⟨ret_two R.out.1.symm R.out.2.symm, Below.refl _ _⟩

set_option maxHeartbeats 400000 in
theorem implFewestIn_law (A : Option Addr) (n c : Nat) (xs : List Int) (w : World) (hx : Ints w A n xs) (hn : n ≤ 1099511627776) :
    Calls Tryz.prog 34 #[.slice A n c] w fun e w' => e = .returned (.tuple #[.int .i64 (fewV xs), .bool (fewB xs)]) ∧ Below w.heap.size w w' := by
  have hl := Lib.hid hx.1
  by_cases h : n ≤ 600
  · go_enter Tryz.func34, Tryz.ntmps34
    go_wp2_with fail
    refine (areWithin_any _ _ _ _ _ _ _ hx hn).mono ?_
    rintro e w' ⟨rfl, rfl⟩
    cases hA : allR xs 0 1000000
    · have R := Lib.hid (few_2 hA)
      clear hA
      go_wp2
      go_ret2
      exact ⟨ret_two R.out.1.symm R.out.2.symm, Below.refl _ _⟩
    · have R := Lib.hid (few_3 hl.out h hA)
      clear hA
      go_wp2_with fail
      refine (fewest_any _ _ _ _ _ hx hn).mono ?_
      rintro e w' ⟨rfl, rfl⟩
      go_wp2
      go_ret2
      exact ⟨ret_two R.out.1.symm R.out.2.symm, Below.refl _ _⟩
  · have R := Lib.hid (few_1 (xs := xs) (by rw [hl.out]; exact h))
    go_enter Tryz.func34, Tryz.ntmps34
    go_wp2
    go_ret2
    exact ⟨ret_two R.out.1.symm R.out.2.symm, Below.refl _ _⟩
end Go.Proofs.YtfanpbfmnckmnaaGreat
