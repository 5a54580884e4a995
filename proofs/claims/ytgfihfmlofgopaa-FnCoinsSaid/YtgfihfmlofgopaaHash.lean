/- The contracts of the digest's parts. -/
import Derived.Test.YtgfihfmlofgopaaRows
import Derived.Test.YtgfihfmlofgopaaPlain
import Derived.Test.YtgfihfmlofgopaaZa
import Derived.WalkKit
import Derived.WalkSpells
import Derived.WalkLawsBesides
namespace Go.Proofs.Ytgfihfmlofgopaa
open Go.RowKit

set_option maxHeartbeats 400000 in
theorem step_any (f n x m p : Int) (w : World) (hf : 0 ≤ f) (hf2 : f ≤ 100000) (hn : 0 ≤ n) (hn2 : n < p) (hp : 0 < p) (hp2 : p ≤ 2147483647) (hm : 0 ≤ m) (hm2 : m < p) :
    Calls Try.prog 92 #[.int .i64 f, .int .i64 n, .int .i64 x, .int .i64 m, .int .i64 p] w fun e w' => e = .returned (.int .i64 ((f * n + x % p + m) % p)) ∧ w = w' := by
  have h0 := tmod_bd x p hp
  have h1 := mul_bd f n 100000 2147483647 hf hf2 hn (by omega)
  have H2 := Lib.hid (tmod_neg x p hp)
  have H3 := Lib.hid (tmod_pos x p hp)
  go_enter Try.func92, Try.ntmps92
  go_wp2
  all_goals go_ret
  · have h : x.tmod p < 0 := by assumption
    rw [← H2.out h]
    exact ⟨rfl, rfl⟩
  · have h : 0 ≤ x.tmod p := by assumption
    rw [← H3.out h]
    exact ⟨rfl, rfl⟩

set_option maxHeartbeats 400000 in
theorem digest_any (A : Option Addr) (n c : Nat) (xs : List Int) (w : World) (hx : Ints w A n xs) (hn : n ≤ 1000000) :
    Calls Try.prog 90 #[.slice A n c] w fun e w' => e = .returned (.int .i64 (dig xs)) ∧ w = w' := by
  have hl : xs.length = n := hx.1
  have HL := Lib.hid hl
  clear hl
  have HA := Lib.hid (digA_bd xs (by rw [HL.out]; omega))
  have HB := Lib.hid (digB_bd xs)
  go_enter Try.func90, Try.ntmps90
  go_wp2
  go_loop [3, 4, 13] (fun a b t => ∃ k : Nat, k ≤ n + 4 ∧ t = .int .i64 k ∧ a = .int .i64 (digA xs k) ∧ b = .int .i64 (digB xs k)) (fun _ _ t => n + 4 - (intOf t).toNat)
  case atStart => exact ⟨0, by omega, rfl, val_int (by simp only [digA]; rw [HL.out]; omega), rfl⟩
  case round =>
    obtain ⟨k, hk, rfl, rfl, rfl⟩ := hrel
    have ha := HA.out k
    have hb := HB.out k
    have hs := HA.out (k + 1)
    have hin2 : ¬ k < n → xs[k]?.getD 0 = 0 := fun h => by rw [List.getElem?_eq_none (by rw [HL.out]; omega)]; rfl
    have hin1 : k < n → ∃ ad, A = some ad ∧ w.cell? (ad.add k) = some (.int .i64 (xs[k]?.getD 0)) := fun h => by
      obtain ⟨ad, rfl, hc⟩ := hx.2 (by omega)
      exact ⟨ad, rfl, hc k h⟩
    obtain ⟨x, hxe⟩ : ∃ x, xs[k]?.getD 0 = x := ⟨_, rfl⟩
    rw [hxe] at hin1 hin2
    have E1 := Lib.hid (digA_in xs k x hxe)
    have E2 := Lib.hid (digB_in' xs k x hxe)
    clear hxe
    by_cases hlt : k < n + 4
    · by_cases hin : k < n
      · obtain ⟨ad, rfl, hc⟩ := hin1 hin
        clear hin1 hin2
        go_wp2_with fail
        refine (step_any _ _ _ _ _ _ (by omega) (by omega) (by omega) (by omega) (by omega) (by omega) (by omega) (by omega)).mono ?_
        rintro e w' ⟨he, rfl⟩
        rw [E1.out] at he
        subst he
        go_wp2_with fail
        refine (step_any _ _ _ _ _ _ (by omega) (by omega) (by omega) (by omega) (by omega) (by omega) (by omega) (by omega)).mono ?_
        rintro e w' ⟨he, rfl⟩
        rw [E2.out] at he
        subst he
        go_wp2
        go_round
        case rel => exact ⟨k + 1, by omega, by go_num, rfl, rfl⟩
        case measure => simp [intOf]; omega
      · obtain rfl := hin2 hin
        clear hin1 hin2
        go_wp2_with fail
        refine (step_any _ _ _ _ _ _ (by omega) (by omega) (by omega) (by omega) (by omega) (by omega) (by omega) (by omega)).mono ?_
        rintro e w' ⟨he, rfl⟩
        rw [E1.out] at he
        subst he
        go_wp2_with fail
        refine (step_any _ _ _ _ _ _ (by omega) (by omega) (by omega) (by omega) (by omega) (by omega) (by omega) (by omega)).mono ?_
        rintro e w' ⟨he, rfl⟩
        rw [E2.out] at he
        subst he
        go_wp2
        go_round
        case rel => exact ⟨k + 1, by omega, by go_num, rfl, rfl⟩
        case measure => simp [intOf]; omega
    · clear hin1 hin2
      go_wp2
      go_ret
      have hk : k = n + 4 := by omega
      exact ⟨ret_int (by unfold dig; rw [HL.out, hk]), rfl⟩

set_option maxHeartbeats 400000 in
theorem hMod_any (x p : Int) (w : World) (hp : 0 < p) (hp2 : p ≤ 2147483647) :
    Calls Try.prog 91 #[.int .i64 x, .int .i64 p] w fun e w' => e = .returned (.int .i64 (x % p)) ∧ w = w' := by
  have h0 := tmod_bd x p hp
  have H := Lib.hid (tmod_add x p hp)
  go_enter Try.func91, Try.ntmps91
  go_wp2
  go_ret
  exact ⟨ret_int H.out, rfl⟩

set_option maxHeartbeats 400000 in
theorem hInts_any (A : Option Addr) (n c : Nat) (xs : List Int) (w : World) (hx : Ints w A n xs) (hn : n ≤ 1000000) :
    Calls Try.prog 89 #[.slice A n c] w fun e w' => e = .returned (.int .i64 (dig xs)) ∧ w = w' := by
  have hl : xs.length = n := hx.1
  have HL := Lib.hid hl
  clear hl
  have HA := Lib.hid (digA_bd xs (by rw [HL.out]; omega))
  have HB := Lib.hid (digB_bd xs)
  go_enter Try.func89, Try.ntmps89
  go_wp2
  go_loop [3, 4, 5] (fun a b t => ∃ k : Nat, k ≤ n + 4 ∧ t = .int .i64 k ∧ a = .int .i64 (digA xs k) ∧ b = .int .i64 (digB xs k)) (fun _ _ t => n + 4 - (intOf t).toNat)
  case atStart => exact ⟨0, by omega, rfl, val_int (by simp only [digA]; rw [HL.out]), rfl⟩
  case round =>
    obtain ⟨k, hk, rfl, rfl, rfl⟩ := hrel
    have ha := HA.out k
    have hb := HB.out k
    have hs := HA.out (k + 1)
    have hin2 : ¬ k < n → xs[k]?.getD 0 = 0 := fun h => by rw [List.getElem?_eq_none (by rw [HL.out]; omega)]; rfl
    have hin1 : k < n → ∃ ad, A = some ad ∧ w.cell? (ad.add k) = some (.int .i64 (xs[k]?.getD 0)) := fun h => by
      obtain ⟨ad, rfl, hc⟩ := hx.2 (by omega)
      exact ⟨ad, rfl, hc k h⟩
    obtain ⟨x, hxe⟩ : ∃ x, xs[k]?.getD 0 = x := ⟨_, rfl⟩
    rw [hxe] at hin1 hin2
    have E1 := Lib.hid (digA_in xs k x hxe)
    have E2 := Lib.hid (digB_in xs k x hxe)
    have hm1 : 0 ≤ x % 2147483647 ∧ x % 2147483647 < 2147483647 := ⟨Int.emod_nonneg _ (by omega), Int.emod_lt_of_pos _ (by omega)⟩
    have hm2 : 0 ≤ x % 2147483629 ∧ x % 2147483629 < 2147483629 := ⟨Int.emod_nonneg _ (by omega), Int.emod_lt_of_pos _ (by omega)⟩
    clear hxe
    by_cases hlt : k < n + 4
    · by_cases hin : k < n
      · obtain ⟨ad, rfl, hc⟩ := hin1 hin
        clear hin1 hin2
        go_wp2_with fail
        refine (hMod_any _ _ _ (by omega) (by omega)).mono ?_
        rintro e w' ⟨rfl, rfl⟩
        go_wp2_with fail
        rw [E1.out]
        refine (hMod_any _ _ _ (by omega) (by omega)).mono ?_
        rintro e w' ⟨rfl, rfl⟩
        go_wp2
        rw [E2.out]
        go_round
        case rel => exact ⟨k + 1, by omega, by go_num, rfl, rfl⟩
        case measure => simp [intOf]; omega
      · obtain rfl := hin2 hin
        have F1 : Hid ((48271 * digA xs k + 1) % 2147483647 = digA xs (k + 1)) := by have := E1.out; rw [Int.zero_emod, Int.add_zero] at this; exact this
        have F2 : Hid ((69621 * digB xs k + digA xs (k + 1)) % 2147483629 = digB xs (k + 1)) := by have := E2.out; rw [Int.zero_emod, Int.add_zero] at this; exact this
        clear hin1 hin2 E1 E2
        go_wp2_with fail
        refine (hMod_any _ _ _ (by omega) (by omega)).mono ?_
        rintro e w' ⟨rfl, rfl⟩
        go_wp2_with fail
        rw [F1.out]
        refine (hMod_any _ _ _ (by omega) (by omega)).mono ?_
        rintro e w' ⟨rfl, rfl⟩
        go_wp2
        rw [F2.out]
        go_round
        case rel => exact ⟨k + 1, by omega, by go_num, rfl, rfl⟩
        case measure => simp [intOf]; omega
    · clear hin1 hin2
      go_wp2
      go_ret
      have hk : k = n + 4 := by omega
      exact ⟨ret_int (by unfold dig; rw [HL.out, hk]), rfl⟩
end Go.Proofs.Ytgfihfmlofgopaa
