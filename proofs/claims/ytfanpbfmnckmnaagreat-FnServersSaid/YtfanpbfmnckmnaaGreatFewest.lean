/- FewestIn, of the reference and of the program. -/
import Derived.Test.YtfanpbfmnckmnaaGreatYw
import Derived.Test.YtfanpbfmnckmnaaGreatZa
namespace Go.Proofs.YtfanpbfmnckmnaaGreat
open Go.RowKit

/-- The least positive number so far. -/
def fewS (b v : Int) : Int := if 0 < v ∧ (b = 0 ∨ v < b) then v else b
def fewO (xs : List Int) : Nat → Int
  | 0 => 0
  | k + 1 => fewS (fewO xs k) (xs[k]?.getD 0)
theorem fewO_in (xs : List Int) (k : Nat) (b x : Int) (hb : fewO xs k = b) (h : xs[k]?.getD 0 = x) : fewO xs (k + 1) = fewS b x := by rw [← h, ← hb]; rfl
theorem fewS_yes {b v : Int} (h1 : 0 < v) (h2 : b = 0 ∨ v < b) : fewS b v = v := by unfold fewS; rw [if_pos ⟨h1, h2⟩]
theorem fewS_no {b v : Int} (h : ¬ (0 < v ∧ (b = 0 ∨ v < b))) : fewS b v = b := by unfold fewS; rw [if_neg h]

set_option maxHeartbeats 400000 in
theorem jFewest_any (A : Option Addr) (n c : Nat) (xs : List Int) (w : World) (hx : Ints w A n xs) (hn : n ≤ 1099511627776) :
    Calls Tryz.prog 90 #[.slice A n c] w fun e w' => e = .returned (.int .i64 (fewO xs n)) ∧ w = w' := by
  go_enter Tryz.func90, Tryz.ntmps90
  go_wp2
  go_loop [3, 8] (fun v i => ∃ k : Nat, k ≤ n ∧ i = .int .i64 k ∧ v = .int .i64 (fewO xs k)) (fun _ i => n - (intOf i).toNat)
  case atStart => exact ⟨0, Nat.zero_le _, rfl, rfl⟩
  case round =>
    obtain ⟨k, hk, rfl, rfl⟩ := hrel
    by_cases hlt : k < n
    · obtain ⟨ad, rfl, hc⟩ := hx.at_ hlt
      clear hx
      obtain ⟨x, hxe⟩ : ∃ x, xs[k]?.getD 0 = x := ⟨_, rfl⟩
      obtain ⟨b, hbe⟩ : ∃ b, fewO xs k = b := ⟨_, rfl⟩
      have E := Lib.hid (fewO_in xs k b x hbe hxe)
      rw [hxe] at hc
      rw [hbe]
      clear hxe hbe
      by_cases h1 : 0 < x
      · by_cases h2 : b = 0
        · subst h2
          have R := Lib.hid (E.out.trans (fewS_yes h1 (.inl rfl)))
          go_wp2
          go_round
          case rel => exact ⟨k + 1, by omega, by go_num, by rw [R.out]⟩
          case measure => simp [intOf]; omega
        · have hb : (b == 0) = false := by rw [beq_eq_false_iff_ne]; exact h2
          by_cases h3 : x < b
          · have R := Lib.hid (E.out.trans (fewS_yes h1 (.inr h3)))
            clear h2
            go_wp2
            go_round
            case rel => exact ⟨k + 1, by omega, by go_num, by rw [R.out]⟩
            case measure => simp [intOf]; omega
          · have R := Lib.hid (E.out.trans (fewS_no (by omega)))
            clear h2
            go_wp2
            go_round
            case rel => exact ⟨k + 1, by omega, by go_num, by rw [R.out]⟩
            case measure => simp [intOf]; omega
      · have R := Lib.hid (E.out.trans (fewS_no (by omega)))
        go_wp2
        go_round
        case rel => exact ⟨k + 1, by omega, by go_num, by rw [R.out]⟩
        case measure => simp [intOf]; omega
    · obtain rfl : n = k := by omega
      clear hx
      go_wp2
      go_ret
      exact ⟨rfl, rfl⟩

set_option maxHeartbeats 400000 in
theorem fewest_any (A : Option Addr) (n c : Nat) (xs : List Int) (w : World) (hx : Ints w A n xs) (hn : n ≤ 1099511627776) :
    Calls Tryz.prog 88 #[.slice A n c] w fun e w' => e = .returned (.int .i64 (fewO xs n)) ∧ w = w' := by
  go_enter Tryz.func88, Tryz.ntmps88
  go_wp2
  go_loop [3, 8] (fun v i => ∃ k : Nat, k ≤ n ∧ i = .int .i64 k ∧ v = .int .i64 (fewO xs k)) (fun _ i => n - (intOf i).toNat)
  case atStart => exact ⟨0, Nat.zero_le _, rfl, rfl⟩
  case round =>
    obtain ⟨k, hk, rfl, rfl⟩ := hrel
    by_cases hlt : k < n
    · obtain ⟨ad, rfl, hc⟩ := hx.at_ hlt
      clear hx
      obtain ⟨x, hxe⟩ : ∃ x, xs[k]?.getD 0 = x := ⟨_, rfl⟩
      obtain ⟨b, hbe⟩ : ∃ b, fewO xs k = b := ⟨_, rfl⟩
      have E := Lib.hid (fewO_in xs k b x hbe hxe)
      rw [hxe] at hc
      rw [hbe]
      clear hxe hbe
      by_cases h1 : 0 < x
      · by_cases h2 : b = 0
        · subst h2
          have R := Lib.hid (E.out.trans (fewS_yes h1 (.inl rfl)))
          go_wp2
          go_round
          case rel => exact ⟨k + 1, by omega, by go_num, by rw [R.out]⟩
          case measure => simp [intOf]; omega
        · have hb : (b == 0) = false := by rw [beq_eq_false_iff_ne]; exact h2
          by_cases h3 : x < b
          · have R := Lib.hid (E.out.trans (fewS_yes h1 (.inr h3)))
            clear h2
            go_wp2
            go_round
            case rel => exact ⟨k + 1, by omega, by go_num, by rw [R.out]⟩
            case measure => simp [intOf]; omega
          · have R := Lib.hid (E.out.trans (fewS_no (by omega)))
            clear h2
            go_wp2
            go_round
            case rel => exact ⟨k + 1, by omega, by go_num, by rw [R.out]⟩
            case measure => simp [intOf]; omega
      · have R := Lib.hid (E.out.trans (fewS_no (by omega)))
        go_wp2
        go_round
        case rel => exact ⟨k + 1, by omega, by go_num, by rw [R.out]⟩
        case measure => simp [intOf]; omega
    · obtain rfl : n = k := by omega
      clear hx
      go_wp2
      go_ret
      exact ⟨rfl, rfl⟩

end Go.Proofs.YtfanpbfmnckmnaaGreat
