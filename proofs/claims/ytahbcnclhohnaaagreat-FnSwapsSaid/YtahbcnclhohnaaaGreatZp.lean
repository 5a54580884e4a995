/- Pairs of indices: the reference's test of them. -/
import Derived.Test.YtahbcnclhohnaaaGreatZo
namespace Go.Proofs.YtahbcnclhohnaaaGreat
open Go.RowKit

/-- A row is a pair of indices below n, the smaller first. -/
def pairB (r : List Int) (n : Nat) : Bool := decide (r.length = 2) && (inR (r[0]?.getD 0) 0 ((n : Int) - 1) && inR (r[1]?.getD 0) (r[0]?.getD 0 + 1) ((n : Int) - 1))
def pairsB (R : List (List Int)) (n : Nat) : Bool := allTo (fun t => pairB (R[t]?.getD []) n) R.length && decide (R.length ≤ 20)
theorem pairsB_no {R : List (List Int)} {n k : Nat} (hk : k < R.length) (h : pairB (R[k]?.getD []) n = false) : pairsB R n = false := by
  unfold pairsB
  rw [allTo_no (p := fun t => pairB (R[t]?.getD []) n) hk h]
  rfl
theorem pairsB_end {R : List (List Int)} {n : Nat} (h : ∀ k, k < R.length → pairB (R[k]?.getD []) n = true) : pairsB R n = decide (R.length ≤ 20) := by
  unfold pairsB
  rw [allTo_yes (p := fun t => pairB (R[t]?.getD []) n) h]
  rfl
theorem pairB_of {r : List Int} {n : Nat} (h : pairB r n = true) : ∃ a b : Nat, r = [(a : Int), (b : Int)] ∧ a < b ∧ b < n := by
  unfold pairB at h
  simp only [Bool.and_eq_true, decide_eq_true_eq] at h
  obtain ⟨h2, h3, h4⟩ := h
  match r, h2 with
  | [x, y], _ =>
    have h3 := inR_of h3
    have h4 := inR_of h4
    simp at h3 h4
    refine ⟨x.toNat, y.toNat, ?_, by omega, by omega⟩
    rw [Int.toNat_of_nonneg (by omega), Int.toNat_of_nonneg (by omega)]
theorem pairsB_of {R : List (List Int)} {n : Nat} (h : pairsB R n = true) : R.length ≤ 20 ∧ ∀ k, k < R.length → ∃ a b : Nat, R[k]?.getD [] = [(a : Int), (b : Int)] ∧ a < b ∧ b < n := by
  unfold pairsB at h
  simp only [Bool.and_eq_true, decide_eq_true_eq] at h
  exact ⟨h.2, fun k hk => pairB_of (allTo_of h.1 k hk)⟩

theorem l1In_q (x lo hi : Int) (W : World) : Calls Tryz.prog 29 #[.int .i64 x, .int .i64 lo, .int .i64 hi] W fun e w' => e = .returned (.bool (inR x lo hi)) ∧ w' = W := (l1In_any x lo hi W).mono fun _ _ ⟨h1, h2⟩ => ⟨h1, h2.symm⟩

set_option maxRecDepth 100000 in
set_option maxHeartbeats 4000000 in
theorem swPairs_any (A : Option Addr) (c n : Nat) (R : List (List Int)) (w : World) (hr : IntsS w A R.length (fun t => R[t]?.getD [])) (hl : R.length ≤ 1099511627776) (hn : n ≤ 1000) :
    Calls Tryz.prog 47 #[.slice A R.length c, .int .i64 n] w fun e w' => e = .returned (.bool (pairsB R n)) ∧ Below w.heap.size w w' := by
  have hw1 : IntKind.i64.wrap ((n : Int) - 1) = (n : Int) - 1 := IntWalk.i64_in _ (by omega)
  have HR := Lib.hid hr
  have HE := Lib.hid (fun h => pairsB_end (R := R) (n := n) h)
  have HF := Lib.hid (fun k hk h => pairsB_no (R := R) (n := n) (k := k) hk h)
  generalize pairsB R n = PB at *
  clear hr
  go_enter Tryz.func47, Tryz.ntmps47
  go_wp2
  go_loopw [9] (fun i wr => ∃ (k : Nat), k ≤ R.length ∧ i = .int .i64 k ∧ Hid (∀ j, j < k → pairB (R[j]?.getD []) n = true) ∧ Below w.heap.size w wr) (fun i _ => R.length - (intOf i).toNat)
  case atStart => exact ⟨0, Nat.zero_le _, rfl, Lib.hid (fun j h => absurd h (by omega)), Below.refl _ _⟩
  case round =>
    obtain ⟨k, hk, rfl, HP, hbw⟩ := hrel
    by_cases hlt : k < R.length
    · obtain ⟨ad, rfl, V, cc, q5, hV⟩ := (HR.out.below hbw).at_ hlt
      have HFk := Lib.hid (HF.out k hlt)
      have HYk : Hid (pairB (R[k]?.getD []) n = true → ∀ j, j < k + 1 → pairB (R[j]?.getD []) n = true) := Lib.hid (fun h j hj => by
        rcases Nat.lt_or_ge j k with h1 | h1
        · exact HP.out j h1
        · obtain rfl : j = k := by omega
          exact h)
      replace hV : Ints wr V (R[k]?.getD []).length (R[k]?.getD []) := hV
      replace q5 : wr.cell? (ad.add k) = some (.slice V (R[k]?.getD []).length cc) := q5
      generalize R[k]?.getD [] = r at *
      clear HR HE HF HP
      by_cases h2 : r.length = 2
      · obtain ⟨a, b, rfl⟩ : ∃ a b, r = [a, b] := by
          match r, h2 with
          | [a, b], _ => exact ⟨a, b, rfl⟩
        clear h2
        obtain ⟨ad6, rfl, p0⟩ := hV.at_ (show 0 < [a, b].length by simp)
        obtain ⟨ad6', e6, p1⟩ := hV.at_ (show 1 < [a, b].length by simp)
        simp only [Option.some.injEq] at e6
        subst e6
        replace q5 : wr.cell? (ad.add k) = some (.slice (some ad6) 2 cc) := q5
        have p00 : wr.cell? ad6 = some (.int .i64 a) := by have := p0; simpa [Addr.add] using this
        have p11 : wr.cell? { block := ad6.block, off := ad6.off + 1, spot := none } = some (.int .i64 b) := by have := p1; simpa [Addr.add] using this
        have HB : pairB [a, b] n = (inR a 0 ((n : Int) - 1) && inR b (a + 1) ((n : Int) - 1)) := by unfold pairB; simp
        rw [HB] at HFk HYk
        clear HB hV p0 p1
        cases h3 : inR a 0 ((n : Int) - 1)
        · have H3 := Lib.hid h3
          have RF := Lib.hid (HFk.out (by rw [h3]; rfl))
          obtain rfl : PB = false := RF.out
          clear HFk HYk
          go_wp2_with fail
          go_quiet ((go_at_call 29; exact Calls.quiet_of_same (l1In_q _ _ _ _)))
          go_wp2
          go_ret
          exact ⟨rfl, below_drewN hbw _⟩
        · have H3 := Lib.hid h3
          have ha := inR_of h3
          obtain ⟨sm, hsm⟩ : ∃ sm, a + 1 = sm := ⟨_, rfl⟩
          have hw2 : IntKind.i64.wrap (a + 1) = sm := (IntWalk.i64_in _ (by omega)).trans hsm
          rw [hsm] at HFk HYk
          clear hsm ha
          cases h4 : inR b sm ((n : Int) - 1)
          · have H4 := Lib.hid h4
            have RF := Lib.hid (HFk.out (by rw [h4]; simp))
            obtain rfl : PB = false := RF.out
            clear HFk HYk
            go_wp2_with fail
            go_quiet ((go_at_call 29; exact Calls.quiet_of_same (l1In_q _ _ _ _)))
            go_wp2
            go_ret
            exact ⟨rfl, below_drewN hbw _⟩
          · have H4 := Lib.hid h4
            have RF := Lib.hid (HYk.out (by rw [h3, h4]; rfl))
            clear HFk HYk
            go_wp2_with fail
            go_quiet ((go_at_call 29; exact Calls.quiet_of_same (l1In_q _ _ _ _)))
            go_wp2
            go_roundw
            case rel => exact ⟨k + 1, by omega, by go_num, RF, below_drewN hbw _⟩
            case measure => simp [intOf]; omega
      · have RF := Lib.hid (HFk.out (by unfold pairB; simp [h2]))
        obtain rfl : PB = false := RF.out
        have hd : ((r.length : Int) != 2) = true := by simp; omega
        clear HFk HYk h2 hV
        generalize r.length = rl at *
        go_wp2
        go_quiet (fail)
        go_wp2
        go_ret
        exact ⟨rfl, below_drewN hbw _⟩
    · obtain rfl : k = R.length := by omega
      have RE := Lib.hid (HE.out HP.out)
      obtain rfl : PB = decide (R.length ≤ 20) := RE.out
      clear HE HF HP
      go_wp2
      go_ret
      exact ⟨ret_bool (by simp; omega), hbw⟩
end Go.Proofs.YtahbcnclhohnaaaGreat
