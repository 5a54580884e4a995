/- Schemas: the test of the program and that of the reference. -/
import Derived.Test.YtgeilnkglbcmeaaMark
namespace Go.Proofs.Ytgeilnkglbcmeaa
open Go.RowKit

/-- All numbers below n pass. -/
def allTo (p : Nat → Bool) (n : Nat) : Bool := (List.range n).all p
theorem allTo_yes {p : Nat → Bool} {n : Nat} (h : ∀ i, i < n → p i = true) : allTo p n = true := by
  simp only [allTo, List.all_eq_true, List.mem_range]; exact h
theorem allTo_no {p : Nat → Bool} {n i : Nat} (hi : i < n) (h : p i = false) : allTo p n = false := by
  simp only [allTo, List.all_eq_false, List.mem_range]; exact ⟨i, hi, by simp [h]⟩
theorem allTo_of {p : Nat → Bool} {n : Nat} (h : allTo p n = true) (i : Nat) (hi : i < n) : p i = true := by
  simp only [allTo, List.all_eq_true, List.mem_range] at h; exact h i hi
theorem allTo_succ {p : Nat → Bool} {n : Nat} (h : allTo p n = true) (hp : p n = true) : allTo p (n + 1) = true :=
  allTo_yes fun i hi => by
    rcases Nat.lt_or_ge i n with h1 | h1
    · exact allTo_of h i h1
    · obtain rfl : i = n := by omega
      exact hp

def chOk (s : ByteArray) (i : Nat) : Bool := if h : i < s.size then inR ((s[i]'h).toNat : Int) 97 122 else true
def wordB (s : ByteArray) : Bool := inR s.size 1 8 && allTo (chOk s) s.size
theorem chOk_yes {s : ByteArray} {i : Nat} (h : i < s.size) (h1 : 97 ≤ ((s[i]'h).toNat : Int)) (h2 : ((s[i]'h).toNat : Int) ≤ 122) : chOk s i = true := by
  simp only [chOk, h, dite_true]; exact inR_yes h1 h2
theorem chOk_no {s : ByteArray} {i : Nat} (h : i < s.size) (h1 : ¬ (97 ≤ ((s[i]'h).toNat : Int) ∧ ((s[i]'h).toNat : Int) ≤ 122)) : chOk s i = false := by
  simp only [chOk, h, dite_true]; exact inR_no h1

set_option maxHeartbeats 800000 in
theorem isWord_any (s : ByteArray) (w : World) (hs : s.size ≤ 1099511627776) :
    Calls Try.prog 121 #[.string s] w fun e w' => e = .returned (.bool (wordB s)) ∧ w = w' := by
  by_cases hz : 1 ≤ s.size
  · by_cases hz2 : s.size ≤ 8
    · have H0 := Lib.hid (show allTo (chOk s) s.size = wordB s by unfold wordB; rw [inR_yes (by omega) (by omega)]; rfl)
      go_enter Try.func121, Try.ntmps121
      go_wp2
      go_loop [3, 14] (fun _ i => ∃ k : Nat, k ≤ s.size ∧ i = .int .i64 k ∧ Hid (∀ t, t < k → chOk s t = true)) (fun _ i => s.size - (intOf i).toNat)
      case atStart => exact ⟨0, Nat.zero_le _, rfl, Lib.hid fun t ht => absurd ht (by omega)⟩
      case round =>
        obtain ⟨k, hk, rfl, hall⟩ := hrel
        by_cases hlt : k < s.size
        · have hbd : (s[k].toNat : Int) < 256 := by have := s[k].toNat_lt; omega
          by_cases h1 : (s[k].toNat : Int) < 97
          · have R := Lib.hid (show false = wordB s by rw [← H0.out, allTo_no hlt (chOk_no hlt (by omega))])
            go_wp2
            go_ret
            exact ⟨ret_bool R.out, rfl⟩
          · by_cases h2 : 122 < (s[k].toNat : Int)
            · have R := Lib.hid (show false = wordB s by rw [← H0.out, allTo_no hlt (chOk_no hlt (by omega))])
              go_wp2
              go_ret
              exact ⟨ret_bool R.out, rfl⟩
            · have R := Lib.hid (show ∀ t, t < k + 1 → chOk s t = true from fun t ht => by
                rcases Nat.lt_or_ge t k with h | h
                · exact hall.out t h
                · obtain rfl : t = k := by omega
                  exact chOk_yes hlt (by omega) (by omega))
              go_wp2
              go_round
              case rel => exact ⟨k + 1, by omega, by go_num, R⟩
              case measure => simp [intOf]; omega
        · obtain rfl : k = s.size := by omega
          have R := Lib.hid (show true = wordB s by rw [← H0.out, allTo_yes hall.out])
          go_wp2
          go_ret
          exact ⟨ret_bool R.out, rfl⟩
    · have R := Lib.hid (show false = wordB s by unfold wordB; rw [inR_no (by omega)]; rfl)
      go_enter Try.func121, Try.ntmps121
      go_wp2
      go_ret
      exact ⟨ret_bool R.out, rfl⟩
  · have R := Lib.hid (show false = wordB s by unfold wordB; rw [inR_no (by omega)]; rfl)
    go_enter Try.func121, Try.ntmps121
    go_wp2
    go_ret
    exact ⟨ret_bool R.out, rfl⟩

set_option maxHeartbeats 800000 in
theorem sName_any (s : ByteArray) (w : World) (hs : s.size ≤ 1099511627776) :
    Calls Try.prog 124 #[.string s] w fun e w' => e = .returned (.bool (wordB s)) ∧ w = w' := by
  go_enter Try.func124, Try.ntmps124
  go_wp2
  go_loop [3] (fun i => ∃ k : Nat, k ≤ s.size ∧ i = .int .i64 k ∧ Hid (∀ t, t < k → chOk s t = true)) (fun i => s.size - (intOf i).toNat)
  case atStart => exact ⟨0, Nat.zero_le _, rfl, Lib.hid fun t ht => absurd ht (by omega)⟩
  case round =>
    obtain ⟨k, hk, rfl, hall⟩ := hrel
    by_cases hlt : k < s.size
    · have hbd : (s[k].toNat : Int) < 256 := by have := s[k].toNat_lt; omega
      by_cases h1 : (s[k].toNat : Int) < 97
      · have R := Lib.hid (show false = wordB s by unfold wordB; rw [allTo_no hlt (chOk_no hlt (by omega)), Bool.and_false])
        go_wp2
        go_ret
        exact ⟨ret_bool R.out, rfl⟩
      · by_cases h2 : 122 < (s[k].toNat : Int)
        · have R := Lib.hid (show false = wordB s by unfold wordB; rw [allTo_no hlt (chOk_no hlt (by omega)), Bool.and_false])
          go_wp2
          go_ret
          exact ⟨ret_bool R.out, rfl⟩
        · have R := Lib.hid (show ∀ t, t < k + 1 → chOk s t = true from fun t ht => by
            rcases Nat.lt_or_ge t k with h | h
            · exact hall.out t h
            · obtain rfl : t = k := by omega
              exact chOk_yes hlt (by omega) (by omega))
          go_wp2
          go_round
          case rel => exact ⟨k + 1, by omega, by go_num, R⟩
          case measure => simp [intOf]; omega
    · obtain rfl : k = s.size := by omega
      have R := Lib.hid (show inR s.size 1 8 = wordB s by unfold wordB; rw [allTo_yes hall.out, Bool.and_true])
      go_wp2_with (go_at_call 85; refine (l1In_any _ _ _ _).mono ?_; rintro e w2 ⟨rfl, rfl⟩)
      go_ret
      exact ⟨ret_bool R.out, rfl⟩
end Go.Proofs.Ytgeilnkglbcmeaa
