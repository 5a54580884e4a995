/- Pairs of indices: the program's tests of them; printed by gfa.py. -/
import Derived.Test.YtahbcnclhohnaaaGreatZp
namespace Go.Proofs.YtahbcnclhohnaaaGreat
open Go.RowKit

theorem pairB_two {a b : Int} {n : Nat} : pairB [a, b] n = (decide (0 ≤ a) && (decide (a < b) && decide (b < (n : Int)))) := by
  unfold pairB inR
  by_cases h1 : 0 ≤ a <;> by_cases h2 : a < b <;> by_cases h3 : b < (n : Int) <;> simp [h1, h2, h3] <;> omega

set_option maxRecDepth 100000 in
set_option maxHeartbeats 4000000 in
theorem isPair_any (V : Option Addr) (c n : Nat) (r : List Int) (w : World) (hV : Ints w V r.length r) (hl : r.length ≤ 1099511627776) :
    Calls Tryz.prog 36 #[.slice V r.length c, .int .i64 n] w fun e w' => e = .returned (.bool (pairB r n)) ∧ ∃ m, w' = w.drewN m := by
  by_cases h2 : r.length = 2
  · obtain ⟨a, b, rfl⟩ : ∃ a b, r = [a, b] := by
      match r, h2 with
      | [a, b], _ => exact ⟨a, b, rfl⟩
    clear h2
    obtain ⟨ad6, rfl, p0⟩ := hV.at_ (show 0 < [a, b].length by simp)
    obtain ⟨ad6', e6, p1⟩ := hV.at_ (show 1 < [a, b].length by simp)
    simp only [Option.some.injEq] at e6
    subst e6
    have p00 : w.cell? ad6 = some (.int .i64 a) := by have := p0; simpa [Addr.add] using this
    have p11 : w.cell? { block := ad6.block, off := ad6.off + 1, spot := none } = some (.int .i64 b) := by have := p1; simpa [Addr.add] using this
    rw [pairB_two]
    show Calls Tryz.prog 36 #[.slice (some ad6) 2 c, .int .i64 n] w _
    clear p0 p1 hV hl
    by_cases h1 : 0 ≤ a
    · have d1 : decide (0 ≤ a) = true := decide_eq_true h1
      by_cases h2 : a < b
      · have d2 : decide (a < b) = true := decide_eq_true h2
        by_cases h3 : b < (n : Int)
        · have d3 : decide (b < (n : Int)) = true := decide_eq_true h3
          rw [d1, d2, d3]
          go_enter Tryz.func36, Tryz.ntmps36
          go_wp2_with fail
          go_quiet (fail)
          go_wp2
          go_ret
          exact ⟨rfl, _, rfl⟩
        · have d3 : decide (b < (n : Int)) = false := decide_eq_false h3
          rw [d1, d2, d3]
          go_enter Tryz.func36, Tryz.ntmps36
          go_wp2_with fail
          go_quiet (fail)
          go_wp2
          go_ret
          exact ⟨rfl, _, rfl⟩
      · have d2 : decide (a < b) = false := decide_eq_false h2
        rw [d1, d2]
        go_enter Tryz.func36, Tryz.ntmps36
        go_wp2_with fail
        go_quiet (fail)
        go_wp2
        go_ret
        exact ⟨rfl, _, rfl⟩
    · have d1 : decide (0 ≤ a) = false := decide_eq_false h1
      rw [d1]
      go_enter Tryz.func36, Tryz.ntmps36
      go_wp2_with fail
      go_quiet (fail)
      go_wp2
      go_ret
      exact ⟨rfl, _, rfl⟩
  · have hd : ((r.length : Int) == 2) = false := by rw [beq_eq_false_iff_ne]; omega
    have hb : pairB r n = false := by unfold pairB; rw [decide_eq_false h2]; rfl
    rw [hb]
    clear h2 hV hb
    go_enter Tryz.func36, Tryz.ntmps36
    go_wp2_with fail
    go_quiet (fail)
    go_wp2
    go_ret
    exact ⟨rfl, _, rfl⟩

set_option maxRecDepth 100000 in
set_option maxHeartbeats 4000000 in
theorem arePairs_any (A : Option Addr) (c n : Nat) (R : List (List Int)) (w : World) (hr : IntsS w A R.length (fun t => R[t]?.getD [])) (hl : R.length ≤ 1099511627776) (hrl : ∀ t, t < R.length → (R[t]?.getD []).length ≤ 1099511627776) :
    Calls Tryz.prog 40 #[.slice A R.length c, .int .i64 n] w fun e w' => e = .returned (.bool (pairsB R n)) ∧ Below w.heap.size w w' := by
  by_cases h20 : 20 < R.length
  · have hd : decide ((20 : Int) < (R.length : Int)) = true := decide_eq_true (by omega)
    have hb : pairsB R n = false := by unfold pairsB; rw [decide_eq_false (show ¬ R.length ≤ 20 by omega), Bool.and_false]
    rw [hb]
    have B := Below.refl w.heap.size w
    clear hr h20 hb hrl
    go_enter Tryz.func40, Tryz.ntmps40
    go_wp2
    go_ret
    exact ⟨rfl, B⟩
  have hd : decide ((20 : Int) < (R.length : Int)) = false := decide_eq_false (by omega)
  have HR := Lib.hid hr
  have HE := Lib.hid (fun h => (pairsB_end (R := R) (n := n) h).trans (decide_eq_true (show R.length ≤ 20 by omega)))
  have HF := Lib.hid (fun k hk h => pairsB_no (R := R) (n := n) (k := k) hk h)
  have HL := Lib.hid hrl
  generalize pairsB R n = PB at *
  clear hr hrl h20
  go_enter Tryz.func40, Tryz.ntmps40
  go_wp2
  go_loopw [12] (fun i wr => ∃ (k : Nat), k ≤ R.length ∧ i = .int .i64 k ∧ Hid (∀ j, j < k → pairB (R[j]?.getD []) n = true) ∧ Below w.heap.size w wr) (fun i _ => R.length - (intOf i).toNat)
  case atStart => exact ⟨0, Nat.zero_le _, rfl, Lib.hid (fun j h => absurd h (by omega)), Below.refl _ _⟩
  case round =>
    obtain ⟨k, hk, rfl, HP, hbw⟩ := hrel
    by_cases hlt : k < R.length
    · obtain ⟨ad, rfl, V, cc, q5, hV⟩ := (HR.out.below hbw).at_ hlt
      have HFk := Lib.hid (HF.out k hlt)
      have HYk : Hid (pairB (R[k]?.getD []) n = true → ∀ j, j < k + 1 → pairB (R[j]?.getD []) n = true) := Lib.hid (fun h j hj => by
        rcases Nat.lt_or_ge j k with h1 | h1
        · exact HP.out j h1
        · obtain rfl : j = k := by omega
          exact h)
      have hrk := HL.out k hlt
      replace hV : Ints wr V (R[k]?.getD []).length (R[k]?.getD []) := hV
      replace q5 : wr.cell? (ad.add k) = some (.slice V (R[k]?.getD []).length cc) := q5
      generalize R[k]?.getD [] = r at *
      have HV := Lib.hid hV
      clear HR HE HF HP HL hV
      go_wp2_with fail
      refine (isPair_any V cc n r _ HV.out hrk).mono ?_
      rintro e w1 ⟨rfl, m, rfl⟩
      have HB := Lib.hid (below_drewN hbw m)
      clear hbw HV q5
      cases hp : pairB r n
      · have RF := Lib.hid (HFk.out hp)
        obtain rfl : PB = false := RF.out
        clear HFk HYk RF hp
        go_wp2
        go_ret
        exact ⟨rfl, HB.out⟩
      · have RF := Lib.hid (HYk.out hp)
        clear HFk HYk hp
        go_wp2
        go_roundw
        case rel => exact ⟨k + 1, by omega, by go_num, RF, HB.out⟩
        case measure => simp [intOf]; omega
    · obtain rfl : k = R.length := by omega
      obtain rfl : PB = true := HE.out HP.out
      clear HE HF HP HR HL
      go_wp2
      go_ret
      exact ⟨rfl, hbw⟩
end Go.Proofs.YtahbcnclhohnaaaGreat
