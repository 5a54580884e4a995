/- Records and data of a schema: the tests of the program and of the reference. -/
import Derived.Test.YtgeilnkglbcmeaaSch3
namespace Go.Proofs.Ytgeilnkglbcmeaa
open Go.RowKit

def valsB (vs : List (ByteArray × Int)) (xs : List Int) : Bool := decide (xs.length = vs.length) && allTo (fun i => inR (xs[i]?.getD 0) 0 (vL vs i - 1)) vs.length
theorem valsB_len {vs : List (ByteArray × Int)} {xs : List Int} (h : xs.length ≠ vs.length) : valsB vs xs = false := by simp [valsB, h]
theorem valsB_no {vs : List (ByteArray × Int)} {xs : List Int} {n k : Nat} (hl : vs.length = n) (hk : k < n) (h : ¬ (0 ≤ xs[k]?.getD 0 ∧ xs[k]?.getD 0 ≤ vL vs k - 1)) : valsB vs xs = false := by
  unfold valsB; rw [allTo_no (i := k) (by omega) (inR_no h), Bool.and_false]
theorem valsB_yes {vs : List (ByteArray × Int)} {xs : List Int} {n : Nat} (hl : vs.length = n) (hx : xs.length = n) (h : ∀ i, i < n → 0 ≤ xs[i]?.getD 0 ∧ xs[i]?.getD 0 ≤ vL vs i - 1) : valsB vs xs = true := by
  unfold valsB
  rw [allTo_yes (fun i hi => inR_yes (h i (by omega)).1 (h i (by omega)).2), decide_eq_true (by omega)]; rfl
theorem valsB_of {vs : List (ByteArray × Int)} {xs : List Int} (h : valsB vs xs = true) : xs.length = vs.length ∧ ∀ i, i < vs.length → 0 ≤ xs[i]?.getD 0 ∧ xs[i]?.getD 0 ≤ vL vs i - 1 := by
  simp only [valsB, Bool.and_eq_true, decide_eq_true_eq] at h
  exact ⟨h.1, fun i hi => inR_of (allTo_of h.2 i hi)⟩

set_option maxHeartbeats 800000 in
theorem areValues_any (A V : Option Addr) (n c m d : Nat) (vs : List (ByteArray × Int)) (xs : List Int) (w : World) (hx : VarsR w A n vs) (hy : Ints w V m xs) (hn : n ≤ 1099511627776) (hm : m ≤ 1099511627776) :
    Calls Try.prog 122 #[.slice A n c, .slice V m d] w fun e w' => e = .returned (.bool (valsB vs xs)) ∧ w = w' := by
  have hl := Lib.hid hx.1
  have hm' := Lib.hid hy.1
  by_cases hne : m = n
  · subst hne
    go_enter Try.func122, Try.ntmps122
    go_wp2
    go_loop [14] (fun i => ∃ k : Nat, k ≤ m ∧ i = .int .i64 k ∧ Hid (∀ t, t < k → 0 ≤ xs[t]?.getD 0 ∧ xs[t]?.getD 0 ≤ vL vs t - 1)) (fun i => m - (intOf i).toNat)
    case atStart => exact ⟨0, Nat.zero_le _, rfl, Lib.hid fun t ht => absurd ht (by omega)⟩
    case round =>
      obtain ⟨k, hk, rfl, hall⟩ := hrel
      by_cases hlt : k < m
      · obtain ⟨ad, rfl, _, hc'⟩ := hx.at_ hlt
        obtain ⟨ad2, rfl, hd⟩ := hy.at_ hlt
        have N0 := Lib.hid (fun h => valsB_no (xs := xs) hl.out hlt h)
        have Y0 := Lib.hid (fun (h : 0 ≤ xs[k]?.getD 0 ∧ xs[k]?.getD 0 ≤ vL vs k - 1) => (show ∀ t, t < k + 1 → 0 ≤ xs[t]?.getD 0 ∧ xs[t]?.getD 0 ≤ vL vs t - 1 from fun t ht => by
          rcases Nat.lt_or_ge t k with h' | h'
          · exact hall.out t h'
          · obtain rfl : t = k := by omega
            exact h))
        clear hx hy
        obtain ⟨x, hxe⟩ : ∃ x, vL vs k = x := ⟨_, rfl⟩
        obtain ⟨y, hye⟩ : ∃ y, xs[k]?.getD 0 = y := ⟨_, rfl⟩
        rw [hxe] at hc' N0 Y0
        rw [hye] at hd N0 Y0
        clear hxe hye
        by_cases h0 : y < 0
        · have R := Lib.hid (N0.out (by omega)).symm
          go_wp2
          go_ret
          exact ⟨ret_bool R.out, rfl⟩
        by_cases h1 : x ≤ y
        · have R := Lib.hid (N0.out (by omega)).symm
          go_wp2
          go_ret
          exact ⟨ret_bool R.out, rfl⟩
        have R := Lib.hid (Y0.out (by omega))
        go_wp2
        go_round
        case rel => exact ⟨k + 1, by omega, by go_num, R⟩
        case measure => simp [intOf]; omega
      · obtain rfl : k = m := by omega
        have R := Lib.hid (valsB_yes hl.out hm'.out hall.out).symm
        go_wp2
        go_ret
        exact ⟨ret_bool R.out, rfl⟩
  · have R := Lib.hid (valsB_len (vs := vs) (xs := xs) (by rw [hl.out, hm'.out]; exact hne)).symm
    go_enter Try.func122, Try.ntmps122
    go_wp2
    go_ret
    exact ⟨ret_bool R.out, rfl⟩

set_option maxHeartbeats 800000 in
theorem sFits_any (A V : Option Addr) (n c m d : Nat) (vs : List (ByteArray × Int)) (xs : List Int) (w : World) (hx : VarsR w A n vs) (hy : Ints w V m xs) (hL : ∀ j, j < n → 2 ≤ vL vs j ∧ vL vs j ≤ 8) (hn : n ≤ 1099511627776) (hm : m ≤ 1099511627776) :
    Calls Try.prog 126 #[.slice A n c, .slice V m d] w fun e w' => e = .returned (.bool (valsB vs xs)) ∧ Below w.heap.size w w' := by
  have hl := Lib.hid hx.1
  have hm' := Lib.hid hy.1
  by_cases hne : m = n
  · subst hne
    go_enter Try.func126, Try.ntmps126
    go_wp2
    go_loopw [14] (fun i wr => ∃ k : Nat, k ≤ m ∧ i = .int .i64 k ∧ Hid (∀ t, t < k → 0 ≤ xs[t]?.getD 0 ∧ xs[t]?.getD 0 ≤ vL vs t - 1) ∧ Below w.heap.size w wr) (fun i _ => m - (intOf i).toNat)
    case atStart => exact ⟨0, Nat.zero_le _, rfl, Lib.hid fun t ht => absurd ht (by omega), Below.refl _ _⟩
    case round =>
      obtain ⟨k, hk, rfl, hall, hbw⟩ := hrel
      by_cases hlt : k < m
      · obtain ⟨ad, rfl, hc, hc'⟩ := (hx.below hbw).at_ hlt
        obtain ⟨ad2, rfl, hd⟩ := (hy.below hbw).at_ hlt
        have hLk := hL k hlt
        have N0 := Lib.hid (fun h => valsB_no (xs := xs) hl.out hlt h)
        have Y0 := Lib.hid (fun (h : 0 ≤ xs[k]?.getD 0 ∧ xs[k]?.getD 0 ≤ vL vs k - 1) => (show ∀ t, t < k + 1 → 0 ≤ xs[t]?.getD 0 ∧ xs[t]?.getD 0 ≤ vL vs t - 1 from fun t ht => by
          rcases Nat.lt_or_ge t k with h' | h'
          · exact hall.out t h'
          · obtain rfl : t = k := by omega
            exact h))
        clear hx hy hL
        obtain ⟨s, hse⟩ : ∃ s, vN vs k = s := ⟨_, rfl⟩
        obtain ⟨x, hxe⟩ : ∃ x, vL vs k = x := ⟨_, rfl⟩
        obtain ⟨y, hye⟩ : ∃ y, xs[k]?.getD 0 = y := ⟨_, rfl⟩
        rw [hse] at hc
        rw [hxe] at hc' N0 Y0 hLk
        rw [hye] at hd N0 Y0
        clear hxe hye hse
        have hb2 := hbw.alloc hbw.size (.cells #[.string s, .int .i64 x] 89)
        have hw1 : IntKind.i64.wrap (x - 1) = x - 1 := IntWalk.i64_in _ (by omega)
        have ld := block_lt_of_cell hd
        have hd2 := ((below_new wr (.cells #[.string s, .int .i64 x] 89)).cell ld).trans hd
        obtain ⟨b, hB⟩ : ∃ b, inR y 0 (x - 1) = b := ⟨_, rfl⟩
        have HB := Lib.hid hB
        clear hB
        go_wp2_with fail
        have c1 : ∀ W : World, Calls Try.prog 85 #[.int .i64 y, .int .i64 0, .int .i64 (x - 1)] W fun e w' => e = .returned (.bool b) ∧ w' = W := fun W => (l1In_any _ _ _ W).mono fun e w' ⟨h1, h2⟩ => ⟨by rw [h1, HB.out], h2.symm⟩
        go_quiet ((go_at_call 85; exact Calls.quiet_of_same (c1 _)))
        cases b
        · have R := Lib.hid (N0.out (fun h => by have := HB.out; rw [inR_yes h.1 h.2] at this; cases this)).symm
          go_wp2
          go_ret
          exact ⟨ret_bool R.out, below_drewN hb2 _⟩
        · have R := Lib.hid (Y0.out (inR_of HB.out))
          go_wp2
          go_roundw
          case rel => exact ⟨k + 1, by omega, by go_num, R, below_drewN hb2 _⟩
          case measure => simp [intOf]; omega
      · obtain rfl : k = m := by omega
        have R := Lib.hid (valsB_yes hl.out hm'.out hall.out).symm
        go_wp2
        go_ret
        exact ⟨ret_bool R.out, hbw⟩
  · have R := Lib.hid (valsB_len (vs := vs) (xs := xs) (by rw [hl.out, hm'.out]; exact hne)).symm
    go_enter Try.func126, Try.ntmps126
    go_wp2
    go_ret
    exact ⟨ret_bool R.out, Below.refl _ _⟩

/-- A record fits a schema. -/
def recB (vs : List (ByteArray × Int)) (x y : Int) (xs : List Int) : Bool := inR x 0 29 && (inR y 0 999 && valsB vs xs)

set_option maxHeartbeats 800000 in
theorem isRecord_any (A V : Option Addr) (n c m d : Nat) (x y : Int) (vs : List (ByteArray × Int)) (xs : List Int) (w : World) (hx : VarsR w A n vs) (hy : Ints w V m xs) (hn : n ≤ 1099511627776) (hm : m ≤ 1099511627776) :
    Calls Try.prog 77 #[.slice A n c, .agg #[.int .i64 x, .int .i64 y, .slice V m d]] w fun e w' => e = .returned (.bool (recB vs x y xs)) ∧ Below w.heap.size w w' := by
  have b0 := below_new w (.cells #[.int .i64 x, .int .i64 y, .slice V m d] 53)
  have HX := Lib.hid (hx.below b0)
  have HY := Lib.hid (hy.below b0)
  clear hx hy
  by_cases h1 : x < 0
  · have R := Lib.hid (show false = recB vs x y xs by unfold recB; rw [inR_no (by omega)]; rfl)
    go_enter Try.func77, Try.ntmps77
    go_wp2
    go_ret
    exact ⟨ret_bool R.out, b0⟩
  by_cases h2 : 29 < x
  · have R := Lib.hid (show false = recB vs x y xs by unfold recB; rw [inR_no (by omega)]; rfl)
    go_enter Try.func77, Try.ntmps77
    go_wp2
    go_ret
    exact ⟨ret_bool R.out, b0⟩
  by_cases h3 : y < 0
  · have R := Lib.hid (show false = recB vs x y xs by unfold recB; rw [inR_no (n := y) (by omega), Bool.false_and, Bool.and_false])
    go_enter Try.func77, Try.ntmps77
    go_wp2
    go_ret
    exact ⟨ret_bool R.out, b0⟩
  by_cases h4 : 999 < y
  · have R := Lib.hid (show false = recB vs x y xs by unfold recB; rw [inR_no (n := y) (by omega), Bool.false_and, Bool.and_false])
    go_enter Try.func77, Try.ntmps77
    go_wp2
    go_ret
    exact ⟨ret_bool R.out, b0⟩
  have R := Lib.hid (show valsB vs xs = recB vs x y xs by unfold recB; rw [inR_yes (n := x) (by omega) (by omega), inR_yes (n := y) (by omega) (by omega)]; rfl)
  go_enter Try.func77, Try.ntmps77
  go_wp2_with (go_at_call 122; refine (areValues_any _ _ n _ m _ vs xs _ HX.out HY.out hn hm).mono ?_; rintro e w2 ⟨rfl, rfl⟩; rw [R.out])
  go_ret
  exact ⟨rfl, b0⟩

set_option maxHeartbeats 800000 in
theorem rGood_any (A V : Option Addr) (n c m d : Nat) (x y : Int) (vs : List (ByteArray × Int)) (xs : List Int) (w : World) (hx : VarsR w A n vs) (hy : Ints w V m xs) (hL : ∀ j, j < n → 2 ≤ vL vs j ∧ vL vs j ≤ 8) (hn : n ≤ 1099511627776) (hm : m ≤ 1099511627776) :
    Calls Try.prog 81 #[.slice A n c, .agg #[.int .i64 x, .int .i64 y, .slice V m d]] w fun e w' => e = .returned (.bool (recB vs x y xs)) ∧ Below w.heap.size w w' := by
  have b0 := below_new w (.cells #[.int .i64 x, .int .i64 y, .slice V m d] 53)
  have HX := Lib.hid (hx.below b0)
  have HY := Lib.hid (hy.below b0)
  clear hx hy
  cases h1 : inR x 0 29
  · have H1 := Lib.hid h1
    have R := Lib.hid (show false = recB vs x y xs by unfold recB; rw [h1]; rfl)
    clear h1
    go_enter Try.func81, Try.ntmps81
    go_wp2_with (go_at_call 85; refine (l1In_any _ _ _ _).mono ?_; rintro e w2 ⟨rfl, rfl⟩; rw [H1.out])
    go_ret
    exact ⟨ret_bool R.out, b0⟩
  cases h2 : inR y 0 999
  · have H1 := Lib.hid h1
    have H2 := Lib.hid h2
    have R := Lib.hid (show false = recB vs x y xs by unfold recB; rw [h1, h2]; rfl)
    clear h1 h2
    go_enter Try.func81, Try.ntmps81
    go_wp2_with fail
    refine (l1In_any _ _ _ _).mono ?_
    rintro e w2 ⟨rfl, rfl⟩
    rw [H1.out]
    go_wp2_with fail
    refine (l1In_any _ _ _ _).mono ?_
    rintro e w2 ⟨rfl, rfl⟩
    rw [H2.out]
    go_wp2
    go_ret
    exact ⟨ret_bool R.out, b0⟩
  have H1 := Lib.hid h1
  have H2 := Lib.hid h2
  have R := Lib.hid (show valsB vs xs = recB vs x y xs by unfold recB; rw [h1, h2]; rfl)
  clear h1 h2
  go_enter Try.func81, Try.ntmps81
  go_wp2_with fail
  refine (l1In_any _ _ _ _).mono ?_
  rintro e w2 ⟨rfl, rfl⟩
  rw [H1.out]
  go_wp2_with fail
  refine (l1In_any _ _ _ _).mono ?_
  rintro e w2 ⟨rfl, rfl⟩
  rw [H2.out]
  go_wp2_with fail
  refine (sFits_any _ _ n _ m _ vs xs _ HX.out HY.out hL hn hm).mono ?_
  rintro e w2 ⟨rfl, hb2⟩
  rw [R.out]
  have B2 := Lib.hid (b0.trans (hb2.mono b0.size))
  go_wp2
  go_ret
  exact ⟨rfl, B2.out⟩
end Go.Proofs.Ytgeilnkglbcmeaa
