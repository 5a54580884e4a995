/- Noise tables: the model, and the program's test. -/
import Derived.Test.YtgeilnkglbcmeaaClass
import Derived.Test.YtgeilnkglbcmeaaZr
import Derived.Test.YtgeilnkglbcmeaaFracB
namespace Go.Proofs.Ytgeilnkglbcmeaa
open Go.RowKit

def nzV (c : Nat) (v : Int) : Bool := decide (-5 ≤ v ∧ v ≤ 5 ∧ -(c : Int) ≤ v ∧ (c = 0 → v = 0))
def nzRow (c : Nat) (xs : List Int) : Bool := decide (xs.length = 16) && allTo (fun k => nzV c (xs[k]?.getD 0)) xs.length
def nzTab (n : Nat) (S : Nat → List Int) : Bool := decide (1 ≤ n ∧ n ≤ 20) && allTo (fun c => nzRow c (S c)) n
section
variable {n c k : Nat} {S : Nat → List Int} {xs : List Int}
theorem nzTab_n (h : ¬ (1 ≤ n ∧ n ≤ 20)) : nzTab n S = false := by unfold nzTab; simp [h]
theorem nzTab_row (hc : c < n) (h : nzRow c (S c) = false) : nzTab n S = false := by unfold nzTab; rw [allTo_no hc h]; simp
theorem nzTab_yes (h0 : 1 ≤ n ∧ n ≤ 20) (h : allTo (fun c => nzRow c (S c)) n = true) : nzTab n S = true := by unfold nzTab; rw [h]; simp [h0]
theorem nzRow_len (h : ¬ xs.length = 16) : nzRow c xs = false := by unfold nzRow; simp [h]
theorem nzRow_no (hk : k < xs.length) (h : nzV c (xs[k]?.getD 0) = false) : nzRow c xs = false := by unfold nzRow; rw [allTo_no (p := fun k => nzV c (xs[k]?.getD 0)) hk h]; simp
theorem nzRow_yes (h0 : xs.length = 16) (h : allTo (fun k => nzV c (xs[k]?.getD 0)) 16 = true) : nzRow c xs = true := by unfold nzRow; rw [h0, h]; rfl
theorem nzTab_of (h : nzTab n S = true) : (1 ≤ n ∧ n ≤ 20) ∧ ∀ c, c < n → (S c).length = 16 ∧ ∀ k, k < 16 → nzV c ((S c)[k]?.getD 0) = true := by
  unfold nzTab at h
  rw [Bool.and_eq_true] at h
  refine ⟨of_decide_eq_true h.1, fun c hc => ?_⟩
  have h2 := allTo_of h.2 c hc
  simp only [nzRow, Bool.and_eq_true, decide_eq_true_eq] at h2
  refine ⟨h2.1, fun k hk => ?_⟩
  exact allTo_of h2.2 k (by omega)
theorem nzV_of {v : Int} (h : nzV c v = true) : -5 ≤ v ∧ v ≤ 5 ∧ -(c : Int) ≤ v := by
  have := of_decide_eq_true h
  exact ⟨this.1, this.2.1, this.2.2.1⟩
end

set_option maxRecDepth 100000 in
set_option maxHeartbeats 2000000 in
theorem isNoise_any (A : Option Addr) (n c : Nat) (S : Nat → List Int) (w : World) (hs : IntsS w A n S) (hn : n ≤ 1099511627776) (hl : ∀ j, j < n → (S j).length ≤ 1099511627776) :
    Calls Try.prog 61 #[.agg #[.slice A n c]] w fun e w' => e = .returned (.bool (nzTab n S)) ∧ Below w.heap.size w w' := by
  have x0 := box_new w #[.slice A n c] 33
  have b0 := below_new w (.cells #[.slice A n c] 33)
  have HB := Lib.hid b0
  have HS := Lib.hid (hs.below b0)
  have HL := Lib.hid hl
  have xc := box_cell x0 0 _ rfl
  clear hs hl x0 b0
  by_cases hr : 1 ≤ n ∧ n ≤ 20
  case neg =>
    have HR := Lib.hid (nzTab_n (S := S) hr)
    rw [HR.out]
    by_cases h1 : n < 1
    · obtain rfl : n = 0 := by omega
      clear hr
      go_enter Try.func61, Try.ntmps61
      go_wp2
      go_ret
      exact ⟨rfl, HB.out⟩
    · have h2 : 20 < n := by omega
      have d1 : decide ((n : Int) < 1) = false := by simp; omega
      have d2 : decide ((20 : Int) < (n : Int)) = true := by simp; omega
      clear hr
      go_enter Try.func61, Try.ntmps61
      go_wp2
      go_ret
      exact ⟨rfl, HB.out⟩
  case pos =>
    have H0 := Lib.hid hr
    obtain ⟨hn1, hn20⟩ := hr
    have d1 : decide ((n : Int) < 1) = false := by simp; omega
    have d2 : decide ((20 : Int) < (n : Int)) = false := by simp; omega
    go_enter Try.func61, Try.ntmps61
    go_wp2
    generalize w.alloc (.cells #[.slice A n c] 33) = w1 at *
    clear d1 d2 xc
    go_loopw [20] (fun i wr => ∃ j : Nat, j ≤ n ∧ i = .int .i64 j ∧ wr = w1 ∧ Hid (allTo (fun c => nzRow c (S c)) j = true)) (fun i _ => n - (intOf i).toNat)
    case atStart => exact ⟨0, Nat.zero_le _, rfl, rfl, Lib.hid rfl⟩
    case round =>
      obtain ⟨j, hj, rfl, rfl, HA⟩ := hrel
      by_cases hlt : j < n
      · obtain ⟨ad, rfl, V, cv, hc, hv⟩ := HS.out.at_ hlt
        have hle := HL.out j hlt
        have HV := Lib.hid hv
        clear hv
        by_cases h16 : (S j).length = 16
        · have H16 := Lib.hid h16
          have HV2 : Hid (Ints wr V 16 (S j)) := Lib.hid (by rw [← H16.out]; exact HV.out)
          rw [h16] at hc
          clear HV hle h16
          go_wp2
          clear hc
          go_loopw [30] (fun i wq => ∃ k : Nat, k ≤ 16 ∧ i = .int .i64 k ∧ wq = wr ∧ Hid (allTo (fun k => nzV j ((S j)[k]?.getD 0)) k = true)) (fun i _ => 16 - (intOf i).toNat)
          case atStart => exact ⟨0, Nat.zero_le _, rfl, rfl, Lib.hid rfl⟩
          case round =>
            obtain ⟨k, hk, rfl, rfl, HK⟩ := hrel
            by_cases hlk : k < 16
            · obtain ⟨av, rfl, hcv⟩ := HV2.out.at_ hlk
              have hV : Hid (∀ b, nzV j ((S j)[k]?.getD 0) = b → nzV j ((S j)[k]?.getD 0) = b) := Lib.hid fun _ h => h
              have HN : Hid (nzV j ((S j)[k]?.getD 0) = false → nzTab n S = false) := Lib.hid fun h => nzTab_row hlt (nzRow_no (by rw [H16.out]; exact hlk) h)
              have HY : Hid (nzV j ((S j)[k]?.getD 0) = true → allTo (fun k => nzV j ((S j)[k]?.getD 0)) (k + 1) = true) := Lib.hid fun h => allTo_succ HK.out h
              obtain ⟨v, hve⟩ : ∃ v, (S j)[k]?.getD 0 = v := ⟨_, rfl⟩
              rw [hve] at hcv HN HY
              clear hve hV
              by_cases hA : v < -5
              · have HR := Lib.hid (HN.out (by simp [nzV]; omega))
                have e1 : decide (v < -5) = true := by simp; omega
                clear HN HY
                go_wp2
                go_ret
                exact ⟨ret_bool HR.out.symm, HB.out⟩
              have e1 : decide (v < -5) = false := by simp; omega
              by_cases hB : 5 < v
              · have HR := Lib.hid (HN.out (by simp [nzV]; omega))
                have e2 : decide (5 < v) = true := by simp; omega
                clear HN HY
                go_wp2
                go_ret
                exact ⟨ret_bool HR.out.symm, HB.out⟩
              have e2 : decide (5 < v) = false := by simp; omega
              by_cases hC : v < -(j : Int)
              · have HR := Lib.hid (HN.out (by simp [nzV]; omega))
                have e3 : decide (v < -(j : Int)) = true := by simp; omega
                clear HN HY
                go_wp2
                go_ret
                exact ⟨ret_bool HR.out.symm, HB.out⟩
              have e3 : decide (v < -(j : Int)) = false := by simp; omega
              by_cases hD : j = 0
              · subst hD
                by_cases hE : v = 0
                · subst hE
                  have HR := Lib.hid (HY.out (by rfl))
                  clear HN HY
                  go_wp2
                  go_roundw
                  case rel => exact ⟨k + 1, by omega, by go_num, by first | trivial | rfl, HR⟩
                  case measure => simp [intOf]; omega
                · have HR := Lib.hid (HN.out (by simp [nzV]; omega))
                  have e5 : (v != 0) = true := by simp [hE]
                  clear HN HY
                  go_wp2
                  go_ret
                  exact ⟨ret_bool HR.out.symm, HB.out⟩
              · have HR := Lib.hid (HY.out (by simp [nzV]; omega))
                have e4 : ((j : Int) == 0) = false := by rw [beq_eq_false_iff_ne]; omega
                clear HN HY
                go_wp2
                go_roundw
                case rel => exact ⟨k + 1, by omega, by go_num, by first | trivial | rfl, HR⟩
                case measure => simp [intOf]; omega
            · obtain rfl : k = 16 := by omega
              have HA2 := Lib.hid (allTo_succ HA.out (nzRow_yes H16.out HK.out))
              go_wp2
              go_roundw
              case rel => exact ⟨j + 1, by omega, by go_num, by first | trivial | rfl, HA2⟩
              case measure => simp [intOf]; omega
        · have HR := Lib.hid (nzTab_row hlt (nzRow_len h16))
          have e1 : ((((S j).length : Nat) : Int) != 16) = true := by simp; omega
          clear h16
          go_wp2
          go_ret
          exact ⟨ret_bool HR.out.symm, HB.out⟩
      · obtain rfl : j = n := by omega
        have HR := Lib.hid (nzTab_yes H0.out HA.out)
        go_wp2
        go_ret
        exact ⟨ret_bool HR.out.symm, HB.out⟩
end Go.Proofs.Ytgeilnkglbcmeaa
