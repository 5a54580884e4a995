/- FirstBadLink and FirstBadPart, of the reference and of the program. -/
import Derived.Test.YtfkgpccanagioaaParts
import Derived.Deep.RegionHeld3
namespace Go.Proofs.Ytfkgpccanagioaa
open Go.RowKit

/-- Index i of the two lists agrees. -/
def sameAt (xs ys : List Int) (i : Nat) : Bool := xs[i]?.getD 0 == ys[i]?.getD 0
theorem sameAt_yes {xs ys : List Int} {i : Nat} (h : xs[i]?.getD 0 = ys[i]?.getD 0) : sameAt xs ys i = true := by simp [sameAt, h]
theorem sameAt_no {xs ys : List Int} {i : Nat} (h : ¬ xs[i]?.getD 0 = ys[i]?.getD 0) : sameAt xs ys i = false := by simpa [sameAt] using h
theorem yes_succ {p : Nat → Bool} {k : Nat} (h : ∀ j, j < k → p j = true) (hk : p k = true) : ∀ j, j < k + 1 → p j = true := fun j hj => by
  rcases Nat.lt_or_ge j k with h1 | h1
  · exact h j h1
  · obtain rfl : j = k := by omega
    exact hk

/-- What FirstBadLink returns. -/
def fblB (xs cs : List Int) : Bool := decide (xs.length ≤ 392 ∧ cs.length = xs.length)
def fblV (xs cs : List Int) : Int := if xs.length ≤ 392 ∧ cs.length = xs.length then (firstNo (sameAt cs (chainL xs)) xs.length : Nat) else 0
theorem fbl_no {xs cs : List Int} (h : ¬ (xs.length ≤ 392 ∧ cs.length = xs.length)) : fblV xs cs = 0 ∧ fblB xs cs = false := by
  unfold fblV fblB; rw [if_neg h, decide_eq_false h]; exact ⟨rfl, rfl⟩
theorem fbl_at {xs cs : List Int} {n k : Nat} (hn : xs.length = n) (h : xs.length ≤ 392 ∧ cs.length = xs.length) (hk : k < n) (hy : ∀ j, j < k → sameAt cs (chainL xs) j = true) (hno : sameAt cs (chainL xs) k = false) : fblV xs cs = k ∧ fblB xs cs = true := by
  unfold fblV fblB; rw [if_pos h, decide_eq_true h, firstNo_at hy (by omega) hno]; exact ⟨rfl, rfl⟩
theorem fbl_end {xs cs : List Int} {n : Nat} (hn : xs.length = n) (h : xs.length ≤ 392 ∧ cs.length = xs.length) (hy : ∀ j, j < n → sameAt cs (chainL xs) j = true) : fblV xs cs = n ∧ fblB xs cs = true := by
  unfold fblV fblB; rw [if_pos h, decide_eq_true h, hn, firstNo_end hy]; exact ⟨rfl, rfl⟩

set_option maxHeartbeats 800000 in
theorem specFirstBadLink_any (A A' : Option Addr) (n c m c' : Nat) (xs cs : List Int) (w : World) (hx : Ints w A n xs) (hy : Ints w A' m cs) :
    Calls Try.prog 25 #[.slice A n c, .slice A' m c'] w fun e w' => e = .returned (.tuple #[.int .i64 (fblV xs cs), .bool (fblB xs cs)]) ∧ Below w.heap.size w w' := by
  have h1 := Lib.hid hx.1
  have h2 := Lib.hid hy.1
  by_cases hl : n ≤ 392
  · by_cases he : m = n
    · subst he
      have HH := Lib.hid (show xs.length ≤ 392 ∧ cs.length = xs.length by rw [h1.out, h2.out]; exact ⟨hl, rfl⟩)
      go_enter Try.func25, Try.ntmps25
      go_wp2_with fail
      refine (hChain_any _ _ _ _ _ hx (by omega)).mono ?_
      rintro e w1 ⟨A2, c2, rfl, hown, hb⟩
      have hz := hown.ints
      have hy1 := hy.below hb
      clear hx hy hown
      go_wp2
      go_loop [21] (fun t => ∃ k : Nat, k ≤ m ∧ t = .int .i64 k ∧ Hid (∀ j, j < k → sameAt cs (chainL xs) j = true)) (fun t => m - (intOf t).toNat)
      case atStart => exact ⟨0, Nat.zero_le _, rfl, Lib.hid fun j hj => absurd hj (by omega)⟩
      case round =>
        obtain ⟨k, hk, rfl, hall⟩ := hrel
        by_cases hlt : k < m
        · obtain ⟨ad, rfl, hc⟩ := hy1.at_ hlt
          obtain ⟨ad', rfl, hc'⟩ := hz.at_ hlt
          have S1 := Lib.hid (sameAt_yes (xs := cs) (ys := chainL xs) (i := k))
          have S2 := Lib.hid (sameAt_no (xs := cs) (ys := chainL xs) (i := k))
          obtain ⟨x, hxe⟩ : ∃ x, cs[k]?.getD 0 = x := ⟨_, rfl⟩
          obtain ⟨y, hye⟩ : ∃ y, (chainL xs)[k]?.getD 0 = y := ⟨_, rfl⟩
          rw [hxe] at hc S1 S2
          rw [hye] at hc' S1 S2
          clear hxe hye hz hy1
          by_cases hxy : x = y
          · subst hxy
            have R := Lib.hid (yes_succ hall.out (S1.out rfl))
            clear S1 S2
            go_wp2
            go_round
            case rel => exact ⟨k + 1, by omega, by go_num, R⟩
            case measure => simp [intOf]; omega
          · have R := Lib.hid (fbl_at h1.out HH.out hlt hall.out (S2.out hxy))
            clear S1 S2
            go_wp2
            go_ret2
            exact ⟨ret_two R.out.1.symm R.out.2.symm, hb⟩
        · obtain rfl : m = k := by omega
          have R := Lib.hid (fbl_end h1.out HH.out hall.out)
          go_wp2
          go_ret2
          exact ⟨ret_two R.out.1.symm R.out.2.symm, hb⟩
    · have R := Lib.hid (fbl_no (xs := xs) (cs := cs) (by rw [h1.out, h2.out]; omega))
      have hne : ((m : Int) != (n : Int)) = true := by rw [bne_iff_ne]; omega
      go_enter Try.func25, Try.ntmps25
      go_wp2
      go_ret2
      exact ⟨ret_two R.out.1.symm R.out.2.symm, Below.refl _ _⟩
  · have R := Lib.hid (fbl_no (xs := xs) (cs := cs) (by rw [h1.out, h2.out]; omega))
    go_enter Try.func25, Try.ntmps25
    go_wp2
    go_ret2
    exact ⟨ret_two R.out.1.symm R.out.2.symm, Below.refl _ _⟩

set_option maxHeartbeats 800000 in
theorem implFirstBadLink_any (A A' : Option Addr) (n c m c' : Nat) (xs cs : List Int) (w : World) (hx : Ints w A n xs) (hy : Ints w A' m cs) :
    Calls Try.prog 23 #[.slice A n c, .slice A' m c'] w fun e w' => e = .returned (.tuple #[.int .i64 (fblV xs cs), .bool (fblB xs cs)]) ∧ Below w.heap.size w w' := by
  have h1 := Lib.hid hx.1
  have h2 := Lib.hid hy.1
  by_cases hl : n ≤ 392
  · by_cases he : m = n
    · subst he
      have HH := Lib.hid (show xs.length ≤ 392 ∧ cs.length = xs.length by rw [h1.out, h2.out]; exact ⟨hl, rfl⟩)
      go_enter Try.func23, Try.ntmps23
      go_wp2_with fail
      refine (chainOf_ex _ _ _ _ _ hx (by omega)).mono ?_
      rintro e w1 ⟨A2, c2, rfl, hown, hb⟩
      have hz := hown.ints
      have hy1 := hy.below hb
      clear hx hy hown
      go_wp2
      go_loop [21] (fun t => ∃ k : Nat, k ≤ m ∧ t = .int .i64 k ∧ Hid (∀ j, j < k → sameAt cs (chainL xs) j = true)) (fun t => m - (intOf t).toNat)
      case atStart => exact ⟨0, Nat.zero_le _, rfl, Lib.hid fun j hj => absurd hj (by omega)⟩
      case round =>
        obtain ⟨k, hk, rfl, hall⟩ := hrel
        by_cases hlt : k < m
        · obtain ⟨ad, rfl, hc⟩ := hy1.at_ hlt
          obtain ⟨ad', rfl, hc'⟩ := hz.at_ hlt
          have S1 := Lib.hid (sameAt_yes (xs := cs) (ys := chainL xs) (i := k))
          have S2 := Lib.hid (sameAt_no (xs := cs) (ys := chainL xs) (i := k))
          obtain ⟨x, hxe⟩ : ∃ x, cs[k]?.getD 0 = x := ⟨_, rfl⟩
          obtain ⟨y, hye⟩ : ∃ y, (chainL xs)[k]?.getD 0 = y := ⟨_, rfl⟩
          rw [hxe] at hc S1 S2
          rw [hye] at hc' S1 S2
          clear hxe hye hz hy1
          by_cases hxy : x = y
          · subst hxy
            have R := Lib.hid (yes_succ hall.out (S1.out rfl))
            clear S1 S2
            go_wp2
            go_round
            case rel => exact ⟨k + 1, by omega, by go_num, R⟩
            case measure => simp [intOf]; omega
          · have R := Lib.hid (fbl_at h1.out HH.out hlt hall.out (S2.out hxy))
            clear S1 S2
            go_wp2
            go_ret2
            exact ⟨ret_two R.out.1.symm R.out.2.symm, hb⟩
        · obtain rfl : m = k := by omega
          have R := Lib.hid (fbl_end h1.out HH.out hall.out)
          go_wp2
          go_ret2
          exact ⟨ret_two R.out.1.symm R.out.2.symm, hb⟩
    · have R := Lib.hid (fbl_no (xs := xs) (cs := cs) (by rw [h1.out, h2.out]; omega))
      have hne : ((m : Int) != (n : Int)) = true := by rw [bne_iff_ne]; omega
      go_enter Try.func23, Try.ntmps23
      go_wp2
      go_ret2
      exact ⟨ret_two R.out.1.symm R.out.2.symm, Below.refl _ _⟩
  · have R := Lib.hid (fbl_no (xs := xs) (cs := cs) (by rw [h1.out, h2.out]; omega))
    go_enter Try.func23, Try.ntmps23
    go_wp2
    go_ret2
    exact ⟨ret_two R.out.1.symm R.out.2.symm, Below.refl _ _⟩

/-- What FirstBadPart returns. -/
def fbpB (ss ps ns : List Int) : Bool := partsB ps ns && decide (ss.length = ps.length)
def fbpV (ss ps ns : List Int) : Int := if fbpB ss ps ns = true then (firstNo (sameAt ss (sealL ps ns)) ps.length : Nat) else 0
theorem fbp_parts {ss ps ns : List Int} (h : partsB ps ns = false) : fbpV ss ps ns = 0 ∧ fbpB ss ps ns = false := by
  have hb : fbpB ss ps ns = false := by simp [fbpB, h]
  exact ⟨by unfold fbpV; rw [if_neg (by simp [hb])], hb⟩
theorem fbp_len {ss ps ns : List Int} (h : ¬ ss.length = ps.length) : fbpV ss ps ns = 0 ∧ fbpB ss ps ns = false := by
  have hb : fbpB ss ps ns = false := by simp [fbpB, h]
  exact ⟨by unfold fbpV; rw [if_neg (by simp [hb])], hb⟩
theorem fbpB_yes {ss ps ns : List Int} (h : partsB ps ns = true) (h2 : ss.length = ps.length) : fbpB ss ps ns = true := by simp [fbpB, h, h2]
theorem fbp_at {ss ps ns : List Int} {n k : Nat} (hn : ps.length = n) (h : fbpB ss ps ns = true) (hk : k < n) (hy : ∀ j, j < k → sameAt ss (sealL ps ns) j = true) (hno : sameAt ss (sealL ps ns) k = false) : fbpV ss ps ns = k ∧ fbpB ss ps ns = true := by
  unfold fbpV; rw [if_pos h, firstNo_at hy (by omega) hno]; exact ⟨rfl, h⟩
theorem fbp_end {ss ps ns : List Int} {n : Nat} (hn : ps.length = n) (h : fbpB ss ps ns = true) (hy : ∀ j, j < n → sameAt ss (sealL ps ns) j = true) : fbpV ss ps ns = n ∧ fbpB ss ps ns = true := by
  unfold fbpV; rw [if_pos h, hn, firstNo_end hy]; exact ⟨rfl, h⟩

set_option maxHeartbeats 800000 in
theorem specFirstBadPart_any (A0 A A' : Option Addr) (l c0 n c m c' : Nat) (ss ps ns : List Int) (w : World) (hs : Ints w A0 l ss) (hx : Ints w A n ps) (hy : Ints w A' m ns) (hn : n ≤ 1099511627776) (hm : m ≤ 1099511627776) :
    Calls Try.prog 16 #[.slice A0 l c0, .slice A n c, .slice A' m c'] w fun e w' => e = .returned (.tuple #[.int .i64 (fbpV ss ps ns), .bool (fbpB ss ps ns)]) ∧ Below w.heap.size w w' := by
  have h0 := Lib.hid hs.1
  have h1 := Lib.hid hx.1
  have h2 := Lib.hid hy.1
  go_enter Try.func16, Try.ntmps16
  go_wp2_with fail
  refine (hParts_any _ _ _ _ _ _ _ _ _ hx hy hn hm).mono ?_
  rintro e w' ⟨rfl, rfl⟩
  cases hB : partsB ps ns
  · have R := Lib.hid (fbp_parts (ss := ss) hB)
    clear hB
    go_wp2
    go_ret2
    exact ⟨ret_two R.out.1.symm R.out.2.symm, Below.refl _ _⟩
  · have hq := partsB_of hB
    have he : n = m := by rw [← h1.out, ← h2.out]; exact hq.2.1
    have hl392 : n ≤ 392 := by rw [← h1.out]; exact hq.1
    have HB := Lib.hid hB
    clear hB hq
    subst he
    by_cases hl : l = n
    · subst hl
      have HH := Lib.hid (fbpB_yes (ss := ss) HB.out (by rw [h0.out, h1.out]))
      have hsl : Hid (∀ k, k < l → (sealL ps ns)[k]?.getD 0 = dig [1, ps[k]?.getD 0, ns[k]?.getD 0]) := Lib.hid fun k h => tabl_at (by rw [h1.out]; exact h)
      go_wp2
      go_loopw [23] (fun t wr => ∃ k : Nat, k ≤ l ∧ t = .int .i64 k ∧ Hid (∀ j, j < k → sameAt ss (sealL ps ns) j = true) ∧ Below w.heap.size w wr) (fun t _ => l - (intOf t).toNat)
      case atStart => exact ⟨0, Nat.zero_le _, rfl, Lib.hid fun j hj => absurd hj (by omega), Below.refl _ _⟩
      case round =>
        obtain ⟨k, hk, rfl, hall, hbw⟩ := hrel
        by_cases hlt : k < l
        · obtain ⟨ad0, rfl, hc0⟩ := (hs.below hbw).at_ hlt
          obtain ⟨ad, rfl, hc⟩ := (hx.below hbw).at_ hlt
          obtain ⟨ad', rfl, hc'⟩ := (hy.below hbw).at_ hlt
          have S1 := Lib.hid (sameAt_yes (xs := ss) (ys := sealL ps ns) (i := k))
          have S2 := Lib.hid (sameAt_no (xs := ss) (ys := sealL ps ns) (i := k))
          rw [hsl.out k hlt] at S1 S2
          obtain ⟨z, hze⟩ : ∃ z, ss[k]?.getD 0 = z := ⟨_, rfl⟩
          obtain ⟨x, hxe⟩ : ∃ x, ps[k]?.getD 0 = x := ⟨_, rfl⟩
          obtain ⟨y, hye⟩ : ∃ y, ns[k]?.getD 0 = y := ⟨_, rfl⟩
          rw [hze] at hc0 S1 S2
          rw [hxe] at hc S1 S2
          rw [hye] at hc' S1 S2
          have hsz := hbw.size
          have hl0 := block_lt_of_cell hc0
          have hl2 := block_lt_of_cell hc'
          clear hze hxe hye hs hx hy
          by_cases hzz : z = dig [1, x, y]
          · have R := Lib.hid (yes_succ hall.out (S1.out hzz))
            subst hzz
            clear S1 S2
            go_wp2
            go_region_held3 (fun w2 => w2.cell? (ad0.add k) = some (.int .i64 (dig [1, x, y])) ∧ w2.cell? (ad'.add k) = some (.int .i64 y)) (go_keep) ((go_at_call 38; refine (hSeal_any _ _ _).mono ?_; rintro e w2 ⟨rfl, hb2⟩; have g1 := (hb2.cell hl0).trans hc0; have g2 := (hb2.cell hl2).trans hc'; have hbw2 := hbw.drew.trans (hb2.mono hsz)))
            go_wp2
            go_roundw
            case rel => exact ⟨k + 1, by omega, by go_num, R, hbw2⟩
            case measure => simp [intOf]; omega
          · have R := Lib.hid (fbp_at h1.out HH.out hlt hall.out (S2.out hzz))
            have hne : (z != dig [1, x, y]) = true := by rw [bne_iff_ne]; exact hzz
            clear S1 S2
            go_wp2
            go_region_held3 (fun w2 => w2.cell? (ad0.add k) = some (.int .i64 z) ∧ w2.cell? (ad'.add k) = some (.int .i64 y)) (go_keep) ((go_at_call 38; refine (hSeal_any _ _ _).mono ?_; rintro e w2 ⟨rfl, hb2⟩; have g1 := (hb2.cell hl0).trans hc0; have g2 := (hb2.cell hl2).trans hc'; have hbw2 := hbw.drew.trans (hb2.mono hsz)))
            go_wp2
            go_ret2
            exact ⟨ret_two R.out.1.symm R.out.2.symm, hbw2⟩
        · obtain rfl : l = k := by omega
          have R := Lib.hid (fbp_end h1.out HH.out hall.out)
          go_wp2
          go_ret2
          exact ⟨ret_two R.out.1.symm R.out.2.symm, hbw⟩
    · have R := Lib.hid (fbp_len (ns := ns) (ss := ss) (ps := ps) (by rw [h0.out, h1.out]; exact hl))
      have hne : ((l : Int) != (n : Int)) = true := by rw [bne_iff_ne]; omega
      go_wp2
      go_ret2
      exact ⟨ret_two R.out.1.symm R.out.2.symm, Below.refl _ _⟩

set_option maxHeartbeats 800000 in
theorem implFirstBadPart_any (A0 A A' : Option Addr) (l c0 n c m c' : Nat) (ss ps ns : List Int) (w : World) (hs : Ints w A0 l ss) (hx : Ints w A n ps) (hy : Ints w A' m ns) (hn : n ≤ 1099511627776) (hm : m ≤ 1099511627776) :
    Calls Try.prog 14 #[.slice A0 l c0, .slice A n c, .slice A' m c'] w fun e w' => e = .returned (.tuple #[.int .i64 (fbpV ss ps ns), .bool (fbpB ss ps ns)]) ∧ Below w.heap.size w w' := by
  have h0 := Lib.hid hs.1
  have h1 := Lib.hid hx.1
  have h2 := Lib.hid hy.1
  go_enter Try.func14, Try.ntmps14
  go_wp2_with fail
  refine (areSeeds_any _ _ _ _ _ hx).mono ?_
  rintro e w' ⟨rfl, rfl⟩
  cases hS : seedsB ps
  · have RB := Lib.hid (partsB_1 (ns := ns) hS)
    have R := Lib.hid (fbp_parts (ss := ss) RB.out)
    clear hS
    go_wp2
    go_ret2
    exact ⟨ret_two R.out.1.symm R.out.2.symm, Below.refl _ _⟩
  · have HS := Lib.hid hS
    clear hS
    go_wp2_with fail
    refine (areSeeds_any _ _ _ _ _ hy).mono ?_
    rintro e w' ⟨rfl, rfl⟩
    cases hS : seedsB ns
    · have RB := Lib.hid (partsB_2 (ps := ps) hS)
      have R := Lib.hid (fbp_parts (ss := ss) RB.out)
      clear hS
      go_wp2
      go_ret2
      exact ⟨ret_two R.out.1.symm R.out.2.symm, Below.refl _ _⟩
    · have HS2 := Lib.hid hS
      clear hS
      by_cases he : n = m
      · subst he
        have HB := Lib.hid (partsB_4 HS.out HS2.out (by rw [h1.out, h2.out]))
        have hl392 : n ≤ 392 := by rw [← h1.out]; exact (partsB_of HB.out).1
        clear HS HS2
        by_cases hl : l = n
        · subst hl
          have HH := Lib.hid (fbpB_yes (ss := ss) HB.out (by rw [h0.out, h1.out]))
          have hsl : Hid (∀ k, k < l → (sealL ps ns)[k]?.getD 0 = dig [1, ps[k]?.getD 0, ns[k]?.getD 0]) := Lib.hid fun k h => tabl_at (by rw [h1.out]; exact h)
          go_wp2
          go_loopw [34] (fun t wr => ∃ k : Nat, k ≤ l ∧ t = .int .i64 k ∧ Hid (∀ j, j < k → sameAt ss (sealL ps ns) j = true) ∧ Below w.heap.size w wr) (fun t _ => l - (intOf t).toNat)
          case atStart => exact ⟨0, Nat.zero_le _, rfl, Lib.hid fun j hj => absurd hj (by omega), Below.refl _ _⟩
          case round =>
            obtain ⟨k, hk, rfl, hall, hbw⟩ := hrel
            by_cases hlt : k < l
            · obtain ⟨ad0, rfl, hc0⟩ := (hs.below hbw).at_ hlt
              obtain ⟨ad, rfl, hc⟩ := (hx.below hbw).at_ hlt
              obtain ⟨ad', rfl, hc'⟩ := (hy.below hbw).at_ hlt
              have S1 := Lib.hid (sameAt_yes (xs := ss) (ys := sealL ps ns) (i := k))
              have S2 := Lib.hid (sameAt_no (xs := ss) (ys := sealL ps ns) (i := k))
              rw [hsl.out k hlt] at S1 S2
              obtain ⟨z, hze⟩ : ∃ z, ss[k]?.getD 0 = z := ⟨_, rfl⟩
              obtain ⟨x, hxe⟩ : ∃ x, ps[k]?.getD 0 = x := ⟨_, rfl⟩
              obtain ⟨y, hye⟩ : ∃ y, ns[k]?.getD 0 = y := ⟨_, rfl⟩
              rw [hze] at hc0 S1 S2
              rw [hxe] at hc S1 S2
              rw [hye] at hc' S1 S2
              have hsz := hbw.size
              have hl0 := block_lt_of_cell hc0
              have hl2 := block_lt_of_cell hc'
              clear hze hxe hye hs hx hy
              by_cases hzz : z = dig [1, x, y]
              · have R := Lib.hid (yes_succ hall.out (S1.out hzz))
                subst hzz
                clear S1 S2
                go_wp2
                go_region_held3 (fun w2 => w2.cell? (ad0.add k) = some (.int .i64 (dig [1, x, y])) ∧ w2.cell? (ad'.add k) = some (.int .i64 y)) (go_keep) ((go_at_call 36; refine (sealSeed_any _ _ _).mono ?_; rintro e w2 ⟨rfl, hb2⟩; have g1 := (hb2.cell hl0).trans hc0; have g2 := (hb2.cell hl2).trans hc'; have hbw2 := hbw.drew.trans (hb2.mono hsz)))
                go_wp2
                go_roundw
                case rel => exact ⟨k + 1, by omega, by go_num, R, hbw2⟩
                case measure => simp [intOf]; omega
              · have R := Lib.hid (fbp_at h1.out HH.out hlt hall.out (S2.out hzz))
                have hne : (z != dig [1, x, y]) = true := by rw [bne_iff_ne]; exact hzz
                clear S1 S2
                go_wp2
                go_region_held3 (fun w2 => w2.cell? (ad0.add k) = some (.int .i64 z) ∧ w2.cell? (ad'.add k) = some (.int .i64 y)) (go_keep) ((go_at_call 36; refine (sealSeed_any _ _ _).mono ?_; rintro e w2 ⟨rfl, hb2⟩; have g1 := (hb2.cell hl0).trans hc0; have g2 := (hb2.cell hl2).trans hc'; have hbw2 := hbw.drew.trans (hb2.mono hsz)))
                go_wp2
                go_ret2
                exact ⟨ret_two R.out.1.symm R.out.2.symm, hbw2⟩
            · obtain rfl : l = k := by omega
              have R := Lib.hid (fbp_end h1.out HH.out hall.out)
              go_wp2
              go_ret2
              exact ⟨ret_two R.out.1.symm R.out.2.symm, hbw⟩
        · have R := Lib.hid (fbp_len (ns := ns) (ss := ss) (ps := ps) (by rw [h0.out, h1.out]; exact hl))
          have hne : ((l : Int) != (n : Int)) = true := by rw [bne_iff_ne]; omega
          go_wp2
          go_ret2
          exact ⟨ret_two R.out.1.symm R.out.2.symm, Below.refl _ _⟩
      · have R := Lib.hid (fbp_parts (ss := ss) (partsB_len (ps := ps) (ns := ns) (by rw [h1.out, h2.out]; omega)))
        have hne : ((n : Int) != (m : Int)) = true := by rw [bne_iff_ne]; omega
        clear HS HS2
        go_wp2
        go_ret2
        exact ⟨ret_two R.out.1.symm R.out.2.symm, Below.refl _ _⟩
end Go.Proofs.Ytfkgpccanagioaa
