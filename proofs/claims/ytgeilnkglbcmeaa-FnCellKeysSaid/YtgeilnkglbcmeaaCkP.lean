/- What the law of cell keys uses: sums, comparing, and the true count among the possible ones. -/
import Derived.Test.YtgeilnkglbcmeaaPos
import Derived.Test.YtgeilnkglbcmeaaLaw
namespace Go.Proofs.Ytgeilnkglbcmeaa
open Go.RowKit

def sumTo (xs : List Int) : Nat → Int
  | 0 => 0
  | k + 1 => sumTo xs k + xs[k]?.getD 0
theorem sumTo_bd {xs : List Int} {n : Nat} (h : ∀ j, j < n → 0 ≤ xs[j]?.getD 0 ∧ xs[j]?.getD 0 ≤ 1000) : ∀ k, k ≤ n → 0 ≤ sumTo xs k ∧ sumTo xs k ≤ 1000 * k := by
  intro k
  induction k with
  | zero => intro _; simp [sumTo]
  | succ k ih => intro hk; have h1 := ih (by omega); have h2 := h k (by omega); simp only [sumTo]; omega
theorem sumTo_set_ge {xs : List Int} {i : Nat} {v : Int} : ∀ n, n ≤ i → sumTo (xs.set i v) n = sumTo xs n := by
  intro n
  induction n with
  | zero => intro _; rfl
  | succ n ih => intro hn; simp only [sumTo]; rw [ih (by omega), List.getElem?_set_ne (by omega)]
theorem sumTo_set {xs : List Int} {i : Nat} {v : Int} (hi : i < xs.length) : ∀ n, i < n → sumTo (xs.set i v) n = sumTo xs n + v - xs[i]?.getD 0 := by
  intro n
  induction n with
  | zero => intro h; omega
  | succ n ih =>
    intro hn
    simp only [sumTo]
    by_cases e : i = n
    · subst e
      rw [sumTo_set_ge i (Nat.le_refl _), List.getElem?_set_self hi]
      simp only [Option.getD_some]; omega
    · rw [ih (by omega), List.getElem?_set_ne e]; omega
theorem sumTo_rep (N : Nat) : ∀ k, sumTo (List.replicate N (0 : Int)) k = 0 := by
  intro k
  induction k with
  | zero => rfl
  | succ k ih => simp only [sumTo, ih, getD_rep]; omega
theorem cellsC_sum {vs : List (ByteArray × Int)} {us : List Int} {rs : List RecD} {N : Nat} : ∀ j, (∀ i, i < j → cellAt vs us rs i < N) → sumTo (cellsC vs us rs N j) N = j := by
  intro j
  induction j with
  | zero => intro _; rw [cellsC, sumTo_rep]; rfl
  | succ j ih =>
    intro h
    have h1 := ih (fun i hi => h i (by omega))
    have h2 := h j (by omega)
    rw [cellsC, sumTo_set (by rw [cellsC_len]; exact h2) N h2, h1]
    push_cast
    omega

set_option maxHeartbeats 400000 in
theorem qSum_any (A : Option Addr) (n c : Nat) (xs : List Int) (w : World) (hx : Ints w A n xs) (hn : n ≤ 1000000) (hb : ∀ j, j < n → 0 ≤ xs[j]?.getD 0 ∧ xs[j]?.getD 0 ≤ 1000) :
    Calls Try.prog 34 #[.slice A n c] w fun e w' => e = .returned (.int .i64 (sumTo xs n)) ∧ w = w' := by
  have HB := Lib.hid (sumTo_bd hb)
  have HX := Lib.hid hx
  have HBB := Lib.hid hb
  clear hx hb
  go_enter Try.func34, Try.ntmps34
  go_wp2
  go_loopw [3, 8] (fun a i wr => ∃ k : Nat, k ≤ n ∧ i = .int .i64 k ∧ a = .int .i64 (sumTo xs k) ∧ w = wr) (fun _ i _ => n - (intOf i).toNat)
  case atStart => exact ⟨0, Nat.zero_le _, rfl, rfl, rfl⟩
  case round =>
    obtain ⟨k, hk, rfl, rfl, rfl⟩ := hrel
    by_cases hlt : k < n
    · obtain ⟨ad, rfl, hc⟩ := HX.out.at_ hlt
      have h1 := HB.out k hk
      have h2 := HBB.out k hlt
      have HE := Lib.hid (show sumTo xs (k + 1) = sumTo xs k + xs[k]?.getD 0 from rfl)
      obtain ⟨x, hxe⟩ : ∃ x, xs[k]?.getD 0 = x := ⟨_, rfl⟩
      obtain ⟨s, hse⟩ : ∃ s, sumTo xs k = s := ⟨_, rfl⟩
      rw [hxe] at hc h2 HE
      rw [hse] at h1 HE ⊢
      clear hxe hse
      go_wp2
      go_roundw
      case rel => exact ⟨k + 1, by omega, by go_num, val_int (by have := HE.out; omega), trivial⟩
      case measure => simp [intOf]; omega
    · obtain rfl : n = k := by omega
      go_wp2
      go_ret
      exact ⟨rfl, rfl⟩

set_option maxHeartbeats 400000 in
theorem qInts_any (A A' : Option Addr) (n c c' : Nat) (xs : List Int) (w : World) (hx : Ints w A n xs) (hy : Ints w A' n xs) (hn : n ≤ 1099511627776) :
    Calls Try.prog 31 #[.slice A n c, .slice A' n c'] w fun e w' => e = .returned (.bool true) ∧ Below w.heap.size w w' := by
  go_enter Try.func31, Try.ntmps31
  go_wp2
  go_loopw [13] (fun i wr => ∃ (k q : Nat), k ≤ n ∧ i = .int .i64 k ∧ wr = w.drewN q) (fun i _ => n - (intOf i).toNat)
  case atStart => exact ⟨0, 0, Nat.zero_le _, rfl, rfl⟩
  case round =>
    obtain ⟨k, q, hk, rfl, rfl⟩ := hrel
    by_cases hlt : k < n
    · obtain ⟨ad, rfl, hc⟩ := hx.at_ hlt
      obtain ⟨ad', rfl, hc'⟩ := hy.at_ hlt
      clear hx hy
      obtain ⟨x, hxe⟩ : ∃ x, xs[k]?.getD 0 = x := ⟨_, rfl⟩
      rw [hxe] at hc hc'
      clear hxe
      go_wp2
      go_quiet (fail)
      go_wp2
      go_roundw
      case rel => exact ⟨k + 1, _, by omega, by go_num, rfl⟩
      case measure => simp [intOf]; omega
    · go_wp2
      go_ret
      exact ⟨rfl, below_drewN (Below.refl _ _) q⟩

/-- Whether one of the first k numbers is v. -/
def metB (xs : List Int) (v : Int) (k : Nat) : Bool := (List.range k).any fun i => (xs[i]?.getD 0 == v)
theorem metB_succ (xs : List Int) (v : Int) (k : Nat) : metB xs v (k + 1) = (metB xs v k || (xs[k]?.getD 0 == v)) := by simp [metB, List.range_succ]
theorem metB_yes {xs : List Int} {v : Int} (h : v ∈ xs) : metB xs v xs.length = true := by
  obtain ⟨i, hi, e⟩ := List.getElem_of_mem h
  simp only [metB, List.any_eq_true, List.mem_range]
  exact ⟨i, hi, by rw [List.getElem?_eq_getElem hi]; simp [e]⟩

theorem nzAt_ge {n x y : Nat} {S : Nat → List Int} (h : nzTab n S = true) (hy : y < 65536) : -(x : Int) ≤ nzAt n S x y := by
  obtain ⟨h1, h2⟩ := nzTab_of h
  have h3 := nzV_of ((h2 (min x (n - 1)) (by omega)).2 (y / 4096) (by omega))
  have h4 : (min x (n - 1) : Nat) ≤ x := Nat.min_le_left _ _
  unfold nzAt
  omega
/-- The true count is among the possible ones. -/
theorem pc_mem {n c y : Nat} {S : Nat → List Int} (h : nzTab n S = true) (hc : c ≤ 1000) (hy : y < 65536) : pcB0 n S ((c : Int) + nzAt n S c y) = true ∧ (c : Int) ∈ pcL n S ((c : Int) + nzAt n S c y) := by
  have h1 := nzAt_bd (x := c) h hy
  have h2 := nzAt_ge (x := c) h hy
  obtain ⟨g1, g2⟩ := nzTab_of h
  have hrow : (S (min c (n - 1))).length = 16 := (g2 _ (by omega)).1
  have hE : (S (min c (n - 1)))[y / 4096]?.getD 0 = nzAt n S c y := rfl
  have h0 : pcB0 n S ((c : Int) + nzAt n S c y) = true := by unfold pcB0; rw [h]; simp [inR]; omega
  refine ⟨h0, ?_⟩
  generalize nzAt n S c y = v at *
  unfold pcL
  rw [if_pos h0]
  have hB : pcB n S ((c : Int) + v) c = true := by
    unfold pcB
    exact hasB_yes hrow (show y / 4096 < 16 by omega) (by rw [hE]; omega)
  simp only [pcK, List.mem_map, List.mem_filter, List.mem_range]
  refine ⟨c - pcLo ((c : Int) + v), ⟨?_, ?_⟩, ?_⟩
  · unfold pcN pcLo; omega
  · have : pcLo ((c : Int) + v) + (c - pcLo ((c : Int) + v)) = c := by unfold pcLo; omega
    rw [this]; exact hB
  · have : pcLo ((c : Int) + v) + (c - pcLo ((c : Int) + v)) = c := by unfold pcLo; omega
    rw [this]
theorem rkV_bd (sd x y : Int) (vs : List (ByteArray × Int)) (xs : List Int) : 0 ≤ rkV sd vs x y xs ∧ rkV sd vs x y xs < 65536 := by
  unfold rkV
  split
  · unfold rkey; exact ⟨Int.emod_nonneg _ (by omega), Int.emod_lt_of_pos _ (by omega)⟩
  · omega
theorem ktB_of {n0 : Nat} {S : Nat → List Int} {sd : Int} {vs : List (ByteArray × Int)} {rs : List RecD} {us : List Int} (h : ktB n0 S sd vs rs us = true) : nzTab n0 S = true ∧ kcB sd vs rs us = true ∧ cellsN vs us ≤ 1000 := by
  simp only [ktB, Bool.and_eq_true, decide_eq_true_eq] at h
  exact ⟨h.1, h.2.1, h.2.2⟩
end Go.Proofs.Ytgeilnkglbcmeaa
