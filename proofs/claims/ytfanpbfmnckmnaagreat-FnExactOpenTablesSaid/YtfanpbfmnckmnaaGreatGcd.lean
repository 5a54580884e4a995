/- The greatest common divisor, of the program and of the reference; valid fractions. -/
import Derived.Test.YtfanpbfmnckmnaaGreatSeal
namespace Go.Proofs.YtfanpbfmnckmnaaGreat
open Go.RowKit

theorem gcd_round (m n : Nat) : Nat.gcd m n = Nat.gcd n (m % n) := by
  rw [Nat.gcd_comm m n, Nat.gcd_rec n m, Nat.gcd_comm]
theorem tmod_natAbs (x y : Int) : (x.tmod y).natAbs = x.natAbs % y.natAbs := Int.natAbs_tmod x y

set_option maxHeartbeats 800000 in
theorem gcdOf_any (a b : Int) (w : World) (ha : -9000000000000000000 ≤ a) (ha2 : a ≤ 9000000000000000000) (hb : -9000000000000000000 ≤ b) (hb2 : b ≤ 9000000000000000000) :
    Calls Tryz.prog 167 #[.int .i64 a, .int .i64 b] w fun e w' => e = .returned (.int .i64 (Int.gcd a b : Nat)) ∧ Below w.heap.size w w' := by
  have HG := Lib.hid (show Int.gcd a b = Nat.gcd a.natAbs b.natAbs from rfl)
  generalize Int.gcd a b = G at *
  have core : ∀ (m n : Nat), m ≤ 9000000000000000000 → n ≤ 9000000000000000000 → a.natAbs = m → b.natAbs = n → Calls Tryz.prog 167 #[.int .i64 a, .int .i64 b] w fun e w' => e = .returned (.int .i64 (G : Nat)) ∧ Below w.heap.size w w' := by
    intro m n hm hn hma hnb
    have HGG := Lib.hid (show G = Nat.gcd m n by rw [HG.out, hma, hnb])
    have hA : (0 ≤ a ∧ a = m) ∨ (a < 0 ∧ -a = m) := by omega
    have hB : (0 ≤ b ∧ b = n) ∨ (b < 0 ∧ -b = n) := by omega
    clear hma hnb HG
    rcases hA with ⟨h1, h2⟩ | ⟨h1, h2⟩ <;> rcases hB with ⟨h3, h4⟩ | ⟨h3, h4⟩
    all_goals
      have H2 := Lib.hid h2
      have H4 := Lib.hid h4
      clear h2 h4
      go_enter Tryz.func167, Tryz.ntmps167
      go_wp2
      go_loopw [0, 1] (fun u v wr => ∃ (x y : Nat), x ≤ 9000000000000000000 ∧ y ≤ 9000000000000000000 ∧ u = .int .i64 x ∧ v = .int .i64 y ∧ Hid (G = Nat.gcd x y) ∧ Below w.heap.size w wr) (fun _ v _ => (intOf v).toNat)
      case atStart => exact ⟨m, n, hm, hn, val_int H2.out, val_int H4.out, HGG, Below.refl _ _⟩
      case round =>
        clear H2 H4 HGG
        obtain ⟨x, y, hx, hy, rfl, rfl, hG, hbw⟩ := hrel
        rcases Nat.eq_zero_or_pos y with h0 | h0
        · subst h0
          have E := Lib.hid (show (x : Int) = (G : Nat) by rw [hG.out, Nat.gcd_zero_right])
          go_wp2
          go_ret
          exact ⟨ret_int E.out, hbw⟩
        · have hne : ((y : Int) != 0) = true := by rw [bne_iff_ne]; omega
          have E := Lib.hid (show G = Nat.gcd y (x % y) by rw [hG.out, gcd_round])
          have hlt := Nat.mod_lt x h0
          go_wp2
          go_quiet (fail)
          go_wp2
          go_roundw
          case rel => exact ⟨y, x % y, hy, by omega, rfl, by go_num, E, below_drewN hbw _⟩
          case measure => simp [intOf]; omega
  exact core _ _ (by omega) (by omega) rfl rfl
end Go.Proofs.YtfanpbfmnckmnaaGreat
