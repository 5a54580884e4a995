/- Chains, of the reference and of the program: ChainOf, FirstBadLink. -/
import Derived.Test.YtfkgpccanagioaaSeal
import Derived.Test.YtfkgpccanagioaaAppend
namespace Go.Proofs.Ytfkgpccanagioaa
open Go.RowKit

/-- The digest behind k links. -/
def lastC (xs : List Int) : Nat → Int
  | 0 => 0
  | k + 1 => dig [4, lastC xs k, xs[k]?.getD 0]
theorem lastC_in (xs : List Int) (k : Nat) (x : Int) (h : xs[k]?.getD 0 = x) : dig [4, lastC xs k, x] = lastC xs (k + 1) := by rw [← h]; rfl
def chainL (xs : List Int) : List Int := tabl xs.length fun i => lastC xs (i + 1)

set_option maxHeartbeats 400000 in
theorem chainOf_any (A : Option Addr) (n c : Nat) (xs : List Int) (w : World) (hx : Ints w A n xs) (hn : n ≤ 1099511627776) :
    Calls Try.prog 48 #[.slice A n c] w fun e w' => e = .returned (.slice (some ⟨w.heap.size, 0, none⟩) n n) ∧ Own w' w.heap.size (some ⟨w.heap.size, 0, none⟩) n n (chainL xs) ∧ Below w.heap.size w w' := by
  obtain ⟨i0, hi, hz0, hz1, hz2⟩ := info_parts Try.infoInt
  have hbl := Lib.hid (show (chainL xs).length = n by rw [chainL, tabl_len, hx.1])
  have hba : Hid (∀ k, k < n → (chainL xs)[k]?.getD 0 = lastC xs (k + 1)) := Lib.hid fun k h => tabl_at (by rw [hx.1]; exact h)
  generalize chainL xs = cs at *
  go_enter Try.func48, Try.ntmps48
  go_wp2_with (at_make; refine wpList_make_full _ rfl _ _ 30 rfl w.heap.size 3 i0 _ 1 Try.underlying30 hi hz0 hz1 .i64 .i64 _ _ n rfl rfl rfl rfl (by rw [hz2]; omega) (by unfold maxLen; omega) (Nat.le_refl _) ?_; intro w1 hown hg)
  rw [map_replicate0] at hown
  have hO : Own w1 w.heap.size (some ⟨w.heap.size, 0, none⟩) n n (List.replicate n 0) := hown
  have hb1 : Below w.heap.size w w1 := (Below.refl _ _).grown hg (Nat.le_refl _) (by simp)
  clear hown hg hi hz0 hz1 hz2
  go_loopw [4, 12] (fun v i wr => ∃ (k : Nat) (ys : List Int), k ≤ n ∧ i = .int .i64 k ∧ v = .int .i64 (lastC xs k) ∧ Agree cs ys n k ∧ Own wr w.heap.size (some ⟨w.heap.size, 0, none⟩) n n ys ∧ Below w.heap.size w wr) (fun _ i _ => n - (intOf i).toNat)
  case atStart => exact ⟨0, _, Nat.zero_le _, rfl, rfl, Agree.start _ _, hO, hb1⟩
  case round =>
    clear hO hb1
    obtain ⟨k, ys, hk, rfl, rfl, hag, hown, hbw⟩ := hrel
    by_cases hlt : k < n
    · obtain ⟨ad, rfl, hc⟩ := (hx.below hbw).at_ hlt
      have R1 := Lib.hid (hag.step hbl.out hlt)
      rw [hba.out k hlt] at R1
      have E := Lib.hid (fun x => lastC_in xs k x)
      obtain ⟨x, hxe⟩ : ∃ x, xs[k]?.getD 0 = x := ⟨_, rfl⟩
      have E2 := Lib.hid (E.out x hxe)
      rw [hxe] at hc
      have hsz := hbw.size
      clear hxe hx hag E
      go_wp2_with fail
      refine (digest_any _ _ _ [4, lastC xs k, x] _ (own_new wr [4, lastC xs k, x] 3 rfl (by omega)).ints (by omega)).mono ?_
      rintro e w' ⟨rfl, rfl⟩
      rw [E2.out]
      have hb2 := hbw.alloc hsz (.cells #[.int .i64 4, .int .i64 (lastC xs k), .int .i64 x] 3)
      have ho2 := hown.below (below_new wr (.cells #[.int .i64 4, .int .i64 (lastC xs k), .int .i64 x] 3))
      clear hown hbw
      obtain ⟨g, hge, _, hgl, hcg, hfg⟩ := ho2.at_ hlt
      simp only [Option.some.injEq, Addr.mk.injEq, and_true] at hge
      subst hge
      have R2 := Lib.hid (ho2.set (k := k) (x := lastC xs (k + 1)))
      have R3 := Lib.hid (hb2.setCell (p := ⟨w.heap.size, k, none⟩) (Nat.le_refl _) (.int .i64 (lastC xs (k + 1))))
      clear hgl ho2 hb2
      go_wp2
      go_roundw
      case rel => exact ⟨k + 1, _, by omega, by go_num, rfl, R1.out, R2.out, R3.out⟩
      case measure => simp [intOf]; omega
    · have R := hag.fin hbl.out (by omega)
      subst R
      clear hag
      go_wp2
      go_ret
      exact ⟨rfl, hown, hbw⟩

set_option maxHeartbeats 400000 in
theorem hChain_any (A : Option Addr) (n c : Nat) (xs : List Int) (w : World) (hx : Ints w A n xs) (hn : n ≤ 1099511627775) :
    Calls Try.prog 49 #[.slice A n c] w fun e w' => ∃ A' c', e = .returned (.slice A' n c') ∧ Own w' w.heap.size A' n c' (chainL xs) ∧ Below w.heap.size w w' := by
  have hfin := Lib.hid (show tabl n (fun i => lastC xs (i + 1)) = chainL xs by rw [chainL, hx.1])
  go_enter Try.func49, Try.ntmps49
  go_wp2
  go_loopw [3, 4, 9] (fun v l i wr => ∃ (k : Nat) (A' : Option Addr) (c' : Nat), k ≤ n ∧ i = .int .i64 k ∧ l = .int .i64 (lastC xs k) ∧ v = .slice A' k c' ∧ Own wr w.heap.size A' k c' (tabl k fun i => lastC xs (i + 1)) ∧ Below w.heap.size w wr) (fun _ _ i _ => n - (intOf i).toNat)
  case atStart => exact ⟨0, none, 0, Nat.zero_le _, rfl, rfl, rfl, Own.nil_, Below.refl _ _⟩
  case round =>
    obtain ⟨k, A', c', hk, rfl, rfl, rfl, hown, hbw⟩ := hrel
    by_cases hlt : k < n
    · obtain ⟨ad, rfl, hc⟩ := (hx.below hbw).at_ hlt
      have E := Lib.hid (tabl_succ k fun i => lastC xs (i + 1))
      obtain ⟨x, hxe⟩ : ∃ x, xs[k]?.getD 0 = x := ⟨_, rfl⟩
      have E2 := Lib.hid (lastC_in xs k x hxe)
      rw [hxe] at hc
      have hsz := hbw.size
      clear hxe hx
      go_wp2_with fail
      refine (hInts_any _ _ _ [4, lastC xs k, x] _ (own_new wr [4, lastC xs k, x] 3 rfl (by omega)).ints (by omega)).mono ?_
      rintro e w' ⟨rfl, rfl⟩
      rw [E2.out]
      have hb2 := hbw.alloc hsz (.cells #[.int .i64 4, .int .i64 (lastC xs k), .int .i64 x] 3)
      have ho2 := hown.below (below_new wr (.cells #[.int .i64 4, .int .i64 (lastC xs k), .int .i64 x] 3))
      have hsz2 := hb2.size
      clear hown hbw hc
      go_wp2_with (at_builtin; refine wp_app1 rfl _ _ rfl w.heap.size A' k c' _ rfl ho2 _ rfl (by simp) (by omega) hsz2 ?_; intro A2 c2 w2 hown2 hg2 _)
      have hb3 := below_write hb2 hg2 hsz2 (fun k hk => (ho2.row_ge k hk).1)
      rw [← E.out] at hown2
      clear ho2 hb2 hg2
      go_wp2
      go_roundw
      case rel => exact ⟨k + 1, A2, c2, by omega, by go_num, rfl, rfl, hown2, hb3⟩
      case measure => simp [intOf]; omega
    · obtain rfl : n = k := by omega
      go_wp2
      go_ret
      exact ⟨A', c', rfl, by rw [← hfin.out]; exact hown, hbw⟩

theorem chainOf_ex (A : Option Addr) (n c : Nat) (xs : List Int) (w : World) (hx : Ints w A n xs) (hn : n ≤ 1099511627776) :
    Calls Try.prog 48 #[.slice A n c] w fun e w' => ∃ A' c', e = .returned (.slice A' n c') ∧ Own w' w.heap.size A' n c' (chainL xs) ∧ Below w.heap.size w w' :=
  (chainOf_any A n c xs w hx hn).mono fun _ _ ⟨h1, h2, h3⟩ => ⟨_, _, h1, h2, h3⟩

/-- What ChainOf returns: the length, the list, and whether there is one. -/
def chainB (xs : List Int) : Bool := decide (xs.length ≤ 392)
def chainV (xs : List Int) : List Int := if xs.length ≤ 392 then chainL xs else []
theorem chain_yes {xs : List Int} (h : xs.length ≤ 392) : chainV xs = chainL xs ∧ chainB xs = true := by simp [chainV, chainB, h]
theorem chain_no {xs : List Int} (h : ¬ xs.length ≤ 392) : chainV xs = [] ∧ chainB xs = false := by simp [chainV, chainB, h]

theorem ret_sl {A : Option Addr} {n n' c : Nat} {b b' : Bool} (hn : n = n') (h : b = b') : Ending.returned (.tuple #[.slice A n c, .bool b]) = .returned (.tuple #[.slice A n' c, .bool b']) := by rw [hn, h]

set_option maxHeartbeats 400000 in
theorem specChainOf_any (A : Option Addr) (n c : Nat) (xs : List Int) (w : World) (hx : Ints w A n xs) :
    Calls Try.prog 22 #[.slice A n c] w fun e w' => ∃ A' c', e = .returned (.tuple #[.slice A' (chainV xs).length c', .bool (chainB xs)]) ∧ Own w' w.heap.size A' (chainV xs).length c' (chainV xs) ∧ Below w.heap.size w w' := by
  by_cases h : n ≤ 392
  · have R := Lib.hid (chain_yes (xs := xs) (by rw [hx.1]; exact h))
    have RL := Lib.hid (show n = (chainL xs).length by rw [chainL, tabl_len, hx.1])
    go_enter Try.func22, Try.ntmps22
    go_wp2_with fail
    refine (hChain_any _ _ _ _ _ hx (by omega)).mono ?_
    rintro e w' ⟨A', c', rfl, hown, hb⟩
    go_wp2
    go_ret2
    rw [R.out.1, R.out.2]
    refine ⟨A', c', ret_sl RL.out rfl, ?_, hb⟩
    rw [← RL.out]
    exact hown
  · have R := Lib.hid (chain_no (xs := xs) (by rw [hx.1]; exact h))
    go_enter Try.func22, Try.ntmps22
    go_wp2
    go_ret2
    rw [R.out.1, R.out.2]
    exact ⟨none, 0, rfl, Own.nil_, Below.refl _ _⟩

set_option maxHeartbeats 400000 in
theorem implChainOf_any (A : Option Addr) (n c : Nat) (xs : List Int) (w : World) (hx : Ints w A n xs) :
    Calls Try.prog 21 #[.slice A n c] w fun e w' => ∃ A' c', e = .returned (.tuple #[.slice A' (chainV xs).length c', .bool (chainB xs)]) ∧ Own w' w.heap.size A' (chainV xs).length c' (chainV xs) ∧ Below w.heap.size w w' := by
  by_cases h : n ≤ 392
  · have R := Lib.hid (chain_yes (xs := xs) (by rw [hx.1]; exact h))
    have RL := Lib.hid (show n = (chainL xs).length by rw [chainL, tabl_len, hx.1])
    go_enter Try.func21, Try.ntmps21
    go_wp2_with fail
    refine (chainOf_any _ _ _ _ _ hx (by omega)).mono ?_
    rintro e w' ⟨rfl, hown, hb⟩
    go_wp2
    go_ret2
    rw [R.out.1, R.out.2]
    refine ⟨_, _, ret_sl RL.out rfl, ?_, hb⟩
    rw [← RL.out]
    exact hown
  · have R := Lib.hid (chain_no (xs := xs) (by rw [hx.1]; exact h))
    go_enter Try.func21, Try.ntmps21
    go_wp2
    go_ret2
    rw [R.out.1, R.out.2]
    exact ⟨none, 0, rfl, Own.nil_, Below.refl _ _⟩
end Go.Proofs.Ytfkgpccanagioaa
