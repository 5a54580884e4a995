/- The laws' comparing helper over slices of variables. -/
import Derived.Test.YtgeilnkglbcmeaaVarsTo
import Derived.Deep.RegionHeld3
namespace Go.Proofs.Ytgeilnkglbcmeaa
open Go.RowKit

set_option maxHeartbeats 400000 in
theorem eqVariable_any (s : ByteArray) (x : Int) (w : World) :
    Calls Try.prog 66 #[.agg #[.string s, .int .i64 x], .agg #[.string s, .int .i64 x]] w fun e w' => e = .returned (.bool true) ∧ Below w.heap.size w w' := by
  go_enter Try.func66, Try.ntmps66
  go_wp2
  go_ret
  exact ⟨rfl, ((Below.refl _ _).alloc (Nat.le_refl _) _).alloc (by simp) _⟩

set_option maxHeartbeats 800000 in
theorem eqVariableS_any (A A' : Option Addr) (n c c' : Nat) (vs : List (ByteArray × Int)) (w : World) (hx : VarsR w A n vs) (hy : VarsR w A' n vs) (hn : n ≤ 1099511627776) :
    Calls Try.prog 17 #[.slice A n c, .slice A' n c'] w fun e w' => e = .returned (.bool true) ∧ Below w.heap.size w w' := by
  go_enter Try.func17, Try.ntmps17
  go_wp2
  go_loopw [5] (fun i wr => ∃ (k : Nat), k ≤ n ∧ i = .int .i64 k ∧ Below w.heap.size w wr) (fun i _ => n - (intOf i).toNat)
  case atStart => exact ⟨0, Nat.zero_le _, rfl, Below.refl _ _⟩
  case round =>
    obtain ⟨k, hk, rfl, hbw⟩ := hrel
    by_cases hlt : k < n
    · obtain ⟨ad, rfl, hc0, hc1⟩ := (hx.below hbw).at_ hlt
      obtain ⟨ad', rfl, hd0, hd1⟩ := (hy.below hbw).at_ hlt
      clear hx hy
      obtain ⟨s, hse⟩ : ∃ s, vN vs k = s := ⟨_, rfl⟩
      obtain ⟨x, hxe⟩ : ∃ x, vL vs k = x := ⟨_, rfl⟩
      rw [hse] at hc0 hd0
      rw [hxe] at hc1 hd1
      clear hse hxe
      have hsz := hbw.size
      have l0 := block_lt_of_cell hc0
      have l1 := block_lt_of_cell hc1
      have m0 := block_lt_of_cell hd0
      have m1 := block_lt_of_cell hd1
      go_wp2
      go_region_held3 (fun w2 => (w2.cell? (ad.add (k * 2)) = some (.string s) ∧ w2.cell? ⟨(ad.add (k * 2)).block, (ad.add (k * 2)).off + 1, none⟩ = some (.int .i64 x)) ∧ w2.cell? (ad'.add (k * 2)) = some (.string s) ∧ w2.cell? ⟨(ad'.add (k * 2)).block, (ad'.add (k * 2)).off + 1, none⟩ = some (.int .i64 x)) (go_keep) ((go_at_call 66; refine (eqVariable_any _ _ _).mono ?_; rintro e w2 ⟨rfl, hb2⟩; have g1 := (hb2.cell l0).trans hc0; have g2 : w2.cell? ⟨(ad.add (k * 2)).block, (ad.add (k * 2)).off + 1, none⟩ = some (.int .i64 x) := (hb2.cell (by exact l1)).trans hc1; have g3 := (hb2.cell m0).trans hd0; have g4 : w2.cell? ⟨(ad'.add (k * 2)).block, (ad'.add (k * 2)).off + 1, none⟩ = some (.int .i64 x) := (hb2.cell (by exact m1)).trans hd1; have hbw2 := hbw.drew.trans (hb2.mono hsz)))
      go_wp2
      go_roundw
      case rel => exact ⟨k + 1, by omega, by go_num, hbw2⟩
      case measure => simp [intOf]; omega
    · go_wp2
      go_ret
      exact ⟨rfl, hbw⟩
end Go.Proofs.Ytgeilnkglbcmeaa
