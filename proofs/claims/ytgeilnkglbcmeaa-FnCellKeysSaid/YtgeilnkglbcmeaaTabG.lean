/- Noise tables: the reference's test. -/
import Derived.Test.YtgeilnkglbcmeaaTabK
namespace Go.Proofs.Ytgeilnkglbcmeaa
open Go.RowKit

section
variable {c : Nat} {xs : List Int}
theorem nzRow_of (h : nzRow c xs = true) : xs.length = 16 ∧ ∀ k, k < xs.length → nzV c (xs[k]?.getD 0) = true := by
  simp only [nzRow, Bool.and_eq_true, decide_eq_true_eq] at h
  exact ⟨h.1, allTo_of h.2⟩
theorem nzV_zero {v : Int} (h : nzV 0 v = true) : v = 0 := (of_decide_eq_true h).2.2.2 rfl
theorem nzRow_g1 (h : allR xs (maxI (-(c : Int)) (-5)) 5 = false) : nzRow c xs = false := by
  cases hr : nzRow c xs
  · rfl
  · obtain ⟨_, h2⟩ := nzRow_of hr
    rw [allR_all fun k hk => inR_yes (by have := nzV_of (h2 k hk); unfold maxI; split <;> omega) (nzV_of (h2 k hk)).2.1] at h
    cases h
theorem nzRow_g2 (h : allR xs 0 0 = false) : nzRow 0 xs = false := by
  cases hr : nzRow 0 xs
  · rfl
  · obtain ⟨_, h2⟩ := nzRow_of hr
    rw [allR_all fun k hk => inR_yes (by have := nzV_zero (h2 k hk); omega) (by have := nzV_zero (h2 k hk); omega)] at h
    cases h
theorem nzRow_gy (h0 : xs.length = 16) (h : allR xs (maxI (-(c : Int)) (-5)) 5 = true) (hz : c = 0 → allR xs 0 0 = true) : nzRow c xs = true := by
  refine nzRow_yes h0 (allTo_yes fun k hk => ?_)
  have h1 := allR_of h k (by omega)
  have h2 : c = 0 → xs[k]?.getD 0 = 0 := fun e => by have := allR_of (hz e) k (by omega); omega
  have h3 : -5 ≤ xs[k]?.getD 0 ∧ -(c : Int) ≤ xs[k]?.getD 0 := by
    have := h1.1
    unfold maxI at this
    split at this <;> omega
  simp only [nzV, decide_eq_true_eq]
  exact ⟨h3.1, h1.2, h3.2, h2⟩
end

set_option maxRecDepth 100000 in
set_option maxHeartbeats 2000000 in
theorem yGood_any (A : Option Addr) (n c : Nat) (S : Nat → List Int) (w : World) (hs : IntsS w A n S) (hn : n ≤ 1099511627776) (hl : ∀ j, j < n → (S j).length ≤ 1099511627776) :
    Calls Try.prog 52 #[.agg #[.slice A n c]] w fun e w' => e = .returned (.bool (nzTab n S)) ∧ Below w.heap.size w w' := by
  have x0 := box_new w #[.slice A n c] 33
  have b0 := below_new w (.cells #[.slice A n c] 33)
  have HB := Lib.hid b0
  have HS := Lib.hid (hs.below b0)
  have HL := Lib.hid hl
  have xc := box_cell x0 0 _ rfl
  clear hs hl x0 b0
  cases hI : inR (n : Int) 1 20
  · have HR := Lib.hid (nzTab_n (S := S) (n := n) (fun h => by rw [inR_yes (by omega) (by omega)] at hI; cases hI))
    have HI := Lib.hid hI
    rw [HR.out]
    clear hI
    go_enter Try.func52, Try.ntmps52
    go_wp2_with fail
    refine (l1In_any _ _ _ _).mono ?_
    rintro e w2 ⟨rfl, rfl⟩
    rw [HI.out]
    go_wp2
    go_ret
    exact ⟨rfl, HB.out⟩
  · have hr := inR_of hI
    have HI := Lib.hid hI
    have H0 : Hid (1 ≤ n ∧ n ≤ 20) := Lib.hid ⟨by omega, by omega⟩
    clear hI
    go_enter Try.func52, Try.ntmps52
    go_wp2_with fail
    refine (l1In_any _ _ _ _).mono ?_
    rintro e w2 ⟨rfl, rfl⟩
    rw [HI.out]
    go_wp2
    generalize w.alloc (.cells #[.slice A n c] 33) = w1 at *
    clear xc
    go_loopw [13] (fun i wr => ∃ j : Nat, j ≤ n ∧ i = .int .i64 j ∧ Hid (Below w1.heap.size w1 wr) ∧ Hid (allTo (fun c => nzRow c (S c)) j = true)) (fun i _ => n - (intOf i).toNat)
    case atStart => exact ⟨0, Nat.zero_le _, rfl, Lib.hid (Below.refl _ _), Lib.hid rfl⟩
    case round =>
      obtain ⟨j, hj, rfl, HW, HA⟩ := hrel
      obtain ⟨w3, rfl⟩ : ∃ w3 : World, w3 = wr := ⟨_, rfl⟩
      have HB3 := Lib.hid (HB.out.trans (HW.out.mono HB.out.size))
      by_cases hlt : j < n
      · obtain ⟨ad, rfl, V, cv, hc, hv⟩ := (HS.out.below HW.out).at_ hlt
        have hle := HL.out j hlt
        have HV := Lib.hid hv
        clear hv
        by_cases h16 : (S j).length = 16
        · have H16 := Lib.hid h16
          have HV2 : Hid (Ints w3 V 16 (S j)) := Lib.hid (by rw [← H16.out]; exact HV.out)
          rw [h16] at hc
          clear HV hle h16
          go_wp2_with fail
          refine (l1Most_any _ _ _).mono ?_
          rintro e w4 ⟨rfl, rfl⟩
          go_wp2_with fail
          refine (l1All_any _ _ _ _ _ _ _ HV2.out (by omega)).mono ?_
          rintro e w5 ⟨rfl, rfl⟩
          cases hA : allR (S j) (maxI (-(j : Int)) (-5)) 5
          · have HR := Lib.hid (nzTab_row hlt (nzRow_g1 hA))
            clear hA
            go_wp2
            go_ret
            exact ⟨ret_bool HR.out.symm, HB3.out⟩
          · have HA1 := Lib.hid hA
            clear hA
            by_cases hz : j = 0
            · subst hz
              go_wp2_with fail
              refine (l1All_any _ _ _ _ _ _ _ HV2.out (by omega)).mono ?_
              rintro e w6 ⟨rfl, rfl⟩
              cases hZ : allR (S 0) 0 0
              · have HR := Lib.hid (nzTab_row hlt (nzRow_g2 hZ))
                clear hZ
                go_wp2
                go_ret
                exact ⟨ret_bool HR.out.symm, HB3.out⟩
              · have HA2 := Lib.hid (allTo_succ HA.out (nzRow_gy H16.out HA1.out (fun _ => hZ)))
                clear hZ
                go_wp2
                go_roundw
                case rel => exact ⟨0 + 1, by omega, by go_num, HW, HA2⟩
                case measure => simp [intOf]; omega
            · have HA2 := Lib.hid (allTo_succ HA.out (nzRow_gy H16.out HA1.out (fun h => absurd h hz)))
              have e4 : ((j : Int) == 0) = false := by rw [beq_eq_false_iff_ne]; omega
              go_wp2
              go_roundw
              case rel => exact ⟨j + 1, by omega, by go_num, HW, HA2⟩
              case measure => simp [intOf]; omega
        · have HR := Lib.hid (nzTab_row hlt (nzRow_len h16))
          have e1 : ((((S j).length : Nat) : Int) != 16) = true := by simp; omega
          clear h16
          go_wp2
          go_ret
          exact ⟨ret_bool HR.out.symm, HB3.out⟩
      · obtain rfl : j = n := by omega
        have HR := Lib.hid (nzTab_yes H0.out HA.out)
        go_wp2
        go_ret
        exact ⟨ret_bool HR.out.symm, HB3.out⟩
end Go.Proofs.Ytgeilnkglbcmeaa
