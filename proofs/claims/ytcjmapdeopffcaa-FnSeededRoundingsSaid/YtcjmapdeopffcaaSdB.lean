/- Near multiples, by both sides. -/
import Derived.Test.YtcjmapdeopffcaaSdA
namespace Go.Proofs.Ytcjmapdeopffcaa
open Go.RowKit Flo
set_option linter.unusedVariables false

def nearB (b v y : Int) : Bool := decide (y.tmod b = 0) && (decide (v - b < y) && decide (y < v + b))
theorem nearB_iff {b v y : Int} : nearB b v y = true ↔ Near b v y := by
  unfold nearB Near
  simp only [Bool.and_eq_true, decide_eq_true_eq]
theorem nearB_no {b v y : Int} (h : ¬ Near b v y) : nearB b v y = false := by
  cases e : nearB b v y with
  | false => rfl
  | true => exact absurd (nearB_iff.1 e) h

set_option maxRecDepth 100000 in
set_option maxHeartbeats 1000000 in
theorem isRounded_any (v b y : Int) (w : World) (hb : 2 ≤ b) (hb2 : b ≤ 100) (hv : 0 ≤ v) (hv2 : v ≤ 100000000) :
    Calls Try.prog 54 #[.int .i64 v, .int .i64 b, .int .i64 y] w fun e w' => e = .returned (.bool (nearB b v y)) ∧ w' = w := by
  have hbp : ¬ b = 0 := by omega
  have hrem := Int.tmod_lt_of_pos y (show 0 < b by omega)
  have hrem2 : -b < y.tmod b := by
    have h := Int.tmod_lt_of_pos (-y) (show 0 < b by omega)
    rw [Int.neg_tmod] at h
    omega
  obtain ⟨O, hO⟩ : ∃ O, nearB b v y = O := ⟨_, rfl⟩
  rw [hO]
  have HO := Lib.hid hO
  obtain ⟨rm, hrm⟩ : ∃ rm, y.tmod b = rm := ⟨_, rfl⟩
  have HRM := Lib.hid hrm
  rw [hrm] at hrem hrem2
  have W5 : IntKind.i64.wrap rm = rm := IntWalk.i64_in _ ⟨by omega, by omega⟩
  clear hO
  by_cases h1 : rm = 0
  case neg =>
    have d1 : (rm == 0) = false := by rw [beq_eq_false_iff_ne]; exact h1
    obtain rfl : O = false := by rw [← HO.out]; exact nearB_no fun h => h1 (by rw [← HRM.out]; exact h.1)
    clear h1
    go_enter Try.func54, Try.ntmps54
    go_wp2
    go_ret
    exact ⟨rfl, rfl⟩
  case pos =>
    subst h1
    by_cases h2 : v - b < y
    case neg =>
      obtain rfl : O = false := by rw [← HO.out]; exact nearB_no fun h => h2 h.2.1
      go_enter Try.func54, Try.ntmps54
      go_wp2
      go_ret
      exact ⟨rfl, rfl⟩
    case pos =>
      by_cases h3 : y < v + b
      case neg =>
        obtain rfl : O = false := by rw [← HO.out]; exact nearB_no fun h => h3 h.2.2
        go_enter Try.func54, Try.ntmps54
        go_wp2
        go_ret
        exact ⟨rfl, rfl⟩
      case pos =>
        obtain rfl : O = true := by rw [← HO.out]; exact nearB_iff.2 ⟨HRM.out, h2, h3⟩
        go_enter Try.func54, Try.ntmps54
        go_wp2
        go_ret
        exact ⟨rfl, rfl⟩

set_option maxRecDepth 100000 in
set_option maxHeartbeats 1000000 in
theorem oNear_any (v b y : Int) (w : World) (hb : 2 ≤ b) (hb2 : b ≤ 100) (hv : 0 ≤ v) (hv2 : v ≤ 100000000) (hy : -1000000000 ≤ y) (hy2 : y ≤ 1000000000) :
    Calls Try.prog 87 #[.int .i64 v, .int .i64 y, .int .i64 b] w fun e w' => e = .returned (.bool (nearB b v y)) ∧ w' = w := by
  have hbp : ¬ b = 0 := by omega
  have hrem := Int.tmod_lt_of_pos y (show 0 < b by omega)
  have hrem2 : -b < y.tmod b := by
    have h := Int.tmod_lt_of_pos (-y) (show 0 < b by omega)
    rw [Int.neg_tmod] at h
    omega
  obtain ⟨O, hO⟩ : ∃ O, nearB b v y = O := ⟨_, rfl⟩
  rw [hO]
  have HO := Lib.hid hO
  obtain ⟨rm, hrm⟩ : ∃ rm, y.tmod b = rm := ⟨_, rfl⟩
  have HRM := Lib.hid hrm
  rw [hrm] at hrem hrem2
  have W5 : IntKind.i64.wrap rm = rm := IntWalk.i64_in _ ⟨by omega, by omega⟩
  clear hO
  by_cases h1 : rm = 0
  case neg =>
    have d1 : (rm == 0) = false := by rw [beq_eq_false_iff_ne]; exact h1
    obtain rfl : O = false := by rw [← HO.out]; exact nearB_no fun h => h1 (by rw [← HRM.out]; exact h.1)
    clear h1
    go_enter Try.func87, Try.ntmps87
    go_wp2
    go_ret
    exact ⟨rfl, rfl⟩
  case pos =>
    subst h1
    have HE : Hid (inR (y - v) (1 - b) (b - 1) = O) := Lib.hid (by
      rw [← HO.out]
      by_cases h : Near b v y
      · rw [nearB_iff.2 h]
        obtain ⟨_, h2, h3⟩ := h
        exact inR_yes (by omega) (by omega)
      · rw [nearB_no h]
        exact inR_no fun h2 => h ⟨HRM.out, by omega, by omega⟩)
    go_enter Try.func87, Try.ntmps87
    go_wp2_with fail
    refine (l1In_any _ _ _ _).mono ?_
    rintro e w1 ⟨rfl, rfl⟩
    rw [HE.out]
    go_wp2
    go_ret
    exact ⟨rfl, rfl⟩
end Go.Proofs.Ytcjmapdeopffcaa
