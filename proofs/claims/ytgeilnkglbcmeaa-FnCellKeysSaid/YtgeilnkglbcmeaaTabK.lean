/- Noise tables: the reference's test, and the keys' test of the program. -/
import Derived.Test.YtgeilnkglbcmeaaTabN
namespace Go.Proofs.Ytgeilnkglbcmeaa
open Go.RowKit

theorem allR_all {xs : List Int} {lo hi : Int} (h : ∀ k, k < xs.length → inR (xs[k]?.getD 0) lo hi = true) : allR xs lo hi = true := by
  simp only [allR, List.all_eq_true]
  intro x hx
  obtain ⟨k, hk, rfl⟩ := List.mem_iff_getElem.1 hx
  have := h k hk
  rw [List.getElem?_eq_getElem hk] at this
  exact this

set_option maxHeartbeats 1000000 in
theorem areKeys_any (A : Option Addr) (n c : Nat) (xs : List Int) (w : World) (hx : IntR w A n xs) :
    Calls Try.prog 90 #[.slice A n c] w fun e w' => e = .returned (.bool (allR xs 0 65535)) ∧ w = w' := by
  have hn := hx.bd
  have hl := Lib.hid hx.len
  have HX := Lib.hid hx.i
  clear hx
  go_enter Try.func90, Try.ntmps90
  go_wp2
  go_loopw [7] (fun i wr => ∃ k : Nat, k ≤ n ∧ i = .int .i64 k ∧ wr = w ∧ Hid (∀ j, j < k → inR (xs[j]?.getD 0) 0 65535 = true)) (fun i _ => n - (intOf i).toNat)
  case atStart => exact ⟨0, Nat.zero_le _, rfl, rfl, Lib.hid fun j hj => absurd hj (by omega)⟩
  case round =>
    obtain ⟨k, hk, rfl, rfl, HK⟩ := hrel
    by_cases hlt : k < n
    · obtain ⟨ad, rfl, hc⟩ := HX.out.at_ hlt
      have HN : Hid (inR (xs[k]?.getD 0) 0 65535 = false → allR xs 0 65535 = false) := Lib.hid fun h => allR_no (by rw [hl.out]; exact hlt) h
      have HY : Hid (inR (xs[k]?.getD 0) 0 65535 = true → ∀ j, j < k + 1 → inR (xs[j]?.getD 0) 0 65535 = true) := Lib.hid fun h j hj => by
        rcases Nat.lt_or_ge j k with h1 | h1
        · exact HK.out j h1
        · rw [show j = k by omega]; exact h
      obtain ⟨v, hve⟩ : ∃ v, xs[k]?.getD 0 = v := ⟨_, rfl⟩
      rw [hve] at hc HN HY
      clear hve
      by_cases h1 : v < 0
      · have HR := Lib.hid (HN.out (inR_no (by omega)))
        have e1 : decide (v < 0) = true := by simp; omega
        clear HN HY
        go_wp2
        go_ret
        exact ⟨ret_bool HR.out.symm, rfl⟩
      have e1 : decide (v < 0) = false := by simp; omega
      by_cases h2 : 65536 ≤ v
      · have HR := Lib.hid (HN.out (inR_no (by omega)))
        have e2 : decide (65536 ≤ v) = true := by simp; omega
        clear HN HY
        go_wp2
        go_ret
        exact ⟨ret_bool HR.out.symm, rfl⟩
      have e2 : decide (65536 ≤ v) = false := by simp; omega
      have HR := Lib.hid (HY.out (inR_yes (by omega) (by omega)))
      clear HN HY
      go_wp2
      go_roundw
      case rel => exact ⟨k + 1, by omega, by go_num, by first | trivial | rfl, HR⟩
      case measure => simp [intOf]; omega
    · obtain rfl : k = n := by omega
      have HR := Lib.hid (allR_all (xs := xs) (lo := 0) (hi := 65535) (by rw [hl.out]; exact HK.out))
      go_wp2
      go_ret
      exact ⟨ret_bool HR.out.symm, rfl⟩
end Go.Proofs.Ytgeilnkglbcmeaa
