/- Numbers below a bound, read off a stream: the model, the program's and the reference's. -/
import Derived.Test.YtfkdmddfadkjoaaRead
namespace Go.Proofs.Ytfkdmddfadkjoaa
open Go.RowKit

/-- k bits more, the first having the greatest value. -/
def numO (s : Int) : Nat → Option (Int × Int) → Option (Int × Int)
  | 0, o => o
  | k + 1, o => match numO s k o with
    | none => none
    | some (x, a) => if a < 1000000 then some (2 * x + bitV s a, a + 1) else none
theorem numO_none (s : Int) (k : Nat) : numO s k none = none := by
  induction k with
  | zero => rfl
  | succ k ih => simp only [numO, ih]
theorem numO_bd {s : Int} {k : Nat} {a x a' : Int} (h : numO s k (some (0, a)) = some (x, a')) (h0 : 0 ≤ a) (h1 : a ≤ 1000000) : 0 ≤ x ∧ x < 2 ^ k ∧ 0 ≤ a' ∧ a' ≤ 1000000 := by
  induction k generalizing x a' with
  | zero => simp only [numO, Option.some.injEq, Prod.mk.injEq] at h; omega
  | succ k ih =>
    simp only [numO] at h
    split at h
    · cases h
    · rename_i y b hy
      have hb := ih hy
      split at h
      · simp only [Option.some.injEq, Prod.mk.injEq] at h
        have := bitV_bd s b
        rw [Int.pow_succ]
        omega
      · cases h
theorem numO_go {s : Int} {k : Nat} {o : Option (Int × Int)} {x a : Int} (h : numO s k o = some (x, a)) (h1 : a < 1000000) : numO s (k + 1) o = some (2 * x + bitV s a, a + 1) := by
  simp only [numO, h]; rw [if_pos h1]
theorem numO_end {s : Int} {k : Nat} {o : Option (Int × Int)} {x a : Int} (h : numO s k o = some (x, a)) (h1 : 1000000 ≤ a) : numO s (k + 1) o = none := by
  simp only [numO, h]; rw [if_neg (by omega)]
theorem numO_dead {s : Int} {k : Nat} {o : Option (Int × Int)} (h : numO s k o = none) : numO s (k + 1) o = none := by
  simp only [numO, h]
theorem numO_le {s : Int} {k n : Nat} {o : Option (Int × Int)} (h : numO s k o = none) (hk : k ≤ n) : numO s n o = none := by
  obtain ⟨d, rfl⟩ := Nat.exists_eq_add_of_le hk
  clear hk
  induction d with
  | zero => exact h
  | succ d ih => exact numO_dead ih

theorem two_pow_le {k m : Nat} (h : k ≤ m) : (2 : Int) ^ k ≤ 2 ^ m := by
  have h1 : ((2 ^ k : Nat) : Int) ≤ ((2 ^ m : Nat) : Int) := by exact_mod_cast Nat.pow_le_pow_right (by omega) h
  rw [Int.natCast_pow, Int.natCast_pow] at h1
  exact h1

/-- Tries to read a number of L bits below n. -/
def belowT (s n : Int) (L : Nat) : Nat → Int → Option (Int × Int)
  | 0, _ => none
  | t + 1, a => match numO s L (some (0, a)) with
    | none => none
    | some (v, a') => if v < n then some (v, a') else belowT s n L t a'
theorem belowT_none {s n : Int} {L t : Nat} {a : Int} (h : numO s L (some (0, a)) = none) : belowT s n L (t + 1) a = none := by simp only [belowT, h]
theorem belowT_yes {s n : Int} {L t : Nat} {a v a' : Int} (h : numO s L (some (0, a)) = some (v, a')) (hv : v < n) : belowT s n L (t + 1) a = some (v, a') := by
  simp only [belowT, h]; rw [if_pos hv]
theorem belowT_more {s n : Int} {L t : Nat} {a v a' : Int} (h : numO s L (some (0, a)) = some (v, a')) (hv : ¬ v < n) : belowT s n L (t + 1) a = belowT s n L t a' := by
  simp only [belowT, h]; rw [if_neg hv]
theorem belowT_bd {s n : Int} {L t : Nat} {a v a' : Int} (h : belowT s n L t a = some (v, a')) (h0 : 0 ≤ a) (h1 : a ≤ 1000000) : 0 ≤ v ∧ v < n ∧ 0 ≤ a' ∧ a' ≤ 1000000 := by
  induction t generalizing a with
  | zero => cases h
  | succ t ih =>
    cases hn : numO s L (some (0, a)) with
    | none => rw [belowT_none hn] at h; cases h
    | some p =>
      obtain ⟨x, b⟩ := p
      have hb := numO_bd hn h0 h1
      by_cases hx : x < n
      · rw [belowT_yes hn hx] at h
        simp only [Option.some.injEq, Prod.mk.injEq] at h
        omega
      · rw [belowT_more hn hx] at h
        exact ih h hb.2.2.1 hb.2.2.2
/-- The number of bits of n - 1. -/
def lenOf (n : Int) : Nat := Lib.bitLen (n - 1).toNat
def belowM (s n a : Int) : Option (Int × Int) := belowT s n (lenOf n) 200 a
theorem belowM_bd {s n a v a' : Int} (h : belowM s n a = some (v, a')) (h0 : 0 ≤ a) (h1 : a ≤ 1000000) : 0 ≤ v ∧ v < n ∧ 0 ≤ a' ∧ a' ≤ 1000000 := belowT_bd h h0 h1

theorem bitLenAux_spec (f x : Nat) (h : x < 2 ^ f) : x < 2 ^ Lib.bitLenAux f x ∧ ∀ k, k < Lib.bitLenAux f x → 2 ^ k ≤ x := by
  induction f generalizing x with
  | zero => simp only [Lib.bitLenAux]; exact ⟨h, fun k hk => absurd hk (by omega)⟩
  | succ f ih =>
    simp only [Lib.bitLenAux]
    split
    · rename_i h0; subst h0; exact ⟨by omega, fun k hk => absurd hk (by omega)⟩
    · rename_i h0
      have h2 := ih (x / 2) (by rw [Nat.pow_succ] at h; omega)
      refine ⟨by rw [Nat.add_comm, Nat.pow_succ]; omega, fun k hk => ?_⟩
      cases k with
      | zero => omega
      | succ k => have := h2.2 k (by omega); rw [Nat.pow_succ]; omega
theorem lenOf_le {n : Int} (h1 : 1 ≤ n) (h2 : n ≤ 1000000000) : lenOf n ≤ 30 := by
  unfold lenOf Lib.bitLen
  have h := bitLenAux_spec 64 (n - 1).toNat (by omega)
  rcases Nat.lt_or_ge 30 (Lib.bitLenAux 64 (n - 1).toNat) with h3 | h3
  · have := h.2 30 h3; omega
  · exact h3
theorem lenOf_lt {n : Int} {k : Nat} (h1 : 1 ≤ n) (h2 : n ≤ 1000000000) (hk : k < lenOf n) : (2 : Int) ^ k < n := by
  unfold lenOf Lib.bitLen at hk
  have h := (bitLenAux_spec 64 (n - 1).toNat (by omega)).2 k hk
  have h4 : ((2 ^ k : Nat) : Int) ≤ ((n - 1).toNat : Int) := by exact_mod_cast h
  rw [Int.natCast_pow] at h4
  rw [show ((2 : Nat) : Int) = 2 from rfl] at h4
  omega
theorem lenOf_ge {n : Int} (h1 : 1 ≤ n) (h2 : n ≤ 1000000000) : n ≤ (2 : Int) ^ lenOf n := by
  unfold lenOf Lib.bitLen
  have h := (bitLenAux_spec 64 (n - 1).toNat (by omega)).1
  have h4 : (((n - 1).toNat : Nat) : Int) < ((2 ^ Lib.bitLenAux 64 (n - 1).toNat : Nat) : Int) := by exact_mod_cast h
  rw [Int.natCast_pow] at h4
  rw [show ((2 : Nat) : Int) = 2 from rfl] at h4
  omega

/-- What a reading method of the program leaves: f of the value and the new position, or a failure. -/
def SPost {α : Type} (f : α → Value) (g : Nat) (s : Int) (r : Option (α × Int)) (w : World) (e : Ending) (w' : World) : Prop :=
  (∀ v a', r = some (v, a') → e = .returned (.tuple #[f v, .bool true]) ∧ StrAt w' g s a') ∧ (r = none → ∃ (z : α) (a' : Int), e = .returned (.tuple #[f z, .bool false]) ∧ StrAt w' g s a') ∧ Chg g (g + 1) w w'
theorem SPost.yes {α : Type} {f : α → Value} {g : Nat} {s : Int} {r : Option (α × Int)} {w w' : World} {v : α} {a' : Int} (h : r = some (v, a')) (hs : StrAt w' g s a') (hc : Chg g (g + 1) w w') : SPost f g s r w (.returned (.tuple #[f v, .bool true])) w' :=
  ⟨fun v2 a2 h2 => (by rw [h] at h2; simp only [Option.some.injEq, Prod.mk.injEq] at h2; obtain ⟨rfl, rfl⟩ := h2; exact ⟨rfl, hs⟩), fun h2 => (by rw [h] at h2; cases h2), hc⟩
theorem SPost.no {α : Type} {f : α → Value} {g : Nat} {s : Int} {r : Option (α × Int)} {w w' : World} {z : α} {a' : Int} (h : r = none) (hs : StrAt w' g s a') (hc : Chg g (g + 1) w w') : SPost f g s r w (.returned (.tuple #[f z, .bool false])) w' :=
  ⟨fun v2 a2 h2 => (by rw [h] at h2; cases h2), fun _ => ⟨z, a', rfl, hs⟩, hc⟩
/-- What a reading method of the reference leaves; z behind a failure. -/
def KPost {α : Type} (f : α → Value) (z : Value) (g : Nat) (s : Int) (r : Option (α × Int)) (w : World) (e : Ending) (w' : World) : Prop :=
  (∀ v a', r = some (v, a') → e = .returned (f v) ∧ RdrAt w' g s a' true) ∧ (r = none → e = .returned z ∧ ∃ a', RdrAt w' g s a' false ∧ 0 ≤ a' ∧ a' ≤ 1000000) ∧ Chg g (g + 1) w w'
theorem KPost.yes {α : Type} {f : α → Value} {z : Value} {g : Nat} {s : Int} {r : Option (α × Int)} {w w' : World} {v : α} {a' : Int} (h : r = some (v, a')) (hs : RdrAt w' g s a' true) (hc : Chg g (g + 1) w w') : KPost f z g s r w (.returned (f v)) w' :=
  ⟨fun v2 a2 h2 => (by rw [h] at h2; simp only [Option.some.injEq, Prod.mk.injEq] at h2; obtain ⟨rfl, rfl⟩ := h2; exact ⟨rfl, hs⟩), fun h2 => (by rw [h] at h2; cases h2), hc⟩
theorem KPost.no {α : Type} {f : α → Value} {z : Value} {g : Nat} {s : Int} {r : Option (α × Int)} {w w' : World} {a' : Int} (h : r = none) (hs : RdrAt w' g s a' false) (h0 : 0 ≤ a') (h1 : a' ≤ 1000000) (hc : Chg g (g + 1) w w') : KPost f z g s r w (.returned z) w' :=
  ⟨fun v2 a2 h2 => (by rw [h] at h2; cases h2), fun _ => ⟨rfl, a', hs, h0, h1⟩, hc⟩

set_option maxHeartbeats 800000 in
theorem number_any (g : Nat) (s a : Int) (n : Nat) (w : World) (h : StrAt w g s a) (h0 : 0 ≤ a) (h1 : a ≤ 1000000) (hn : n ≤ 40) :
    Calls Try.prog 145 #[.pointer (some ⟨g, 0, none⟩), .int .i64 n] w (SPost (Value.int .i64) g s (numO s n (some (0, a))) w) := by
  have HM : Hid (∀ k x b, numO s k (some (0, a)) = some (x, b) → 0 ≤ x ∧ x < 2 ^ k ∧ 0 ≤ b ∧ b ≤ 1000000) := Lib.hid fun k x b hk => numO_bd hk h0 h1
  go_enter Try.func145, Try.ntmps145
  go_wp2
  go_loopw [6, 10] (fun v i wr => ∃ (k : Nat) (x b : Int), k ≤ n ∧ i = .int .i64 k ∧ v = .int .i64 x ∧ Hid (numO s k (some (0, a)) = some (x, b)) ∧ StrAt wr g s b ∧ Chg g (g + 1) w wr) (fun _ i _ => n - (intOf i).toNat)
  case atStart => exact ⟨0, 0, a, Nat.zero_le _, rfl, rfl, Lib.hid rfl, h, Chg.refl _ _ _⟩
  case round =>
    clear h
    obtain ⟨k, x, b, hk, rfl, rfl, hx, hs, hc⟩ := hrel
    have hbd := HM.out k x b hx.out
    have hp : (2 : Int) ^ k ≤ 2 ^ 40 := two_pow_le (by omega)
    have hx2 : x < 1099511627776 := by omega
    have hx0 := hbd.1
    have hb0 := hbd.2.2.1
    have hb1 := hbd.2.2.2
    clear hbd hp
    by_cases hlt : k < n
    · by_cases hb : b < 1000000
      · have R := Lib.hid (numO_go hx.out hb)
        have hv := bitV_bd s b
        go_wp2_with fail
        refine (next_ok _ _ _ _ hs (by omega) hb).mono ?_
        rintro e w2 ⟨rfl, hs2, hc2⟩
        have hc3 := hc.trans hc2
        clear hs hc hc2
        go_wp2
        go_roundw
        case rel => exact ⟨k + 1, _, _, by omega, by go_num, rfl, R, hs2, hc3⟩
        case measure => simp [intOf]; omega
      · have R := Lib.hid (numO_le (numO_end hx.out (by omega)) (show k + 1 ≤ n by omega))
        go_wp2_with fail
        refine (next_no _ _ _ _ hs (by omega)).mono ?_
        rintro e w2 ⟨rfl, rfl⟩
        go_wp2
        go_ret2
        exact SPost.no R.out hs hc
    · obtain rfl : k = n := by omega
      go_wp2
      go_ret2
      exact SPost.yes hx.out hs hc

set_option maxRecDepth 100000 in
set_option maxHeartbeats 800000 in
theorem below_any (g : Nat) (s a n : Int) (w : World) (h : StrAt w g s a) (h0 : 0 ≤ a) (h1 : a ≤ 1000000) (hn : 1 ≤ n) (hn2 : n ≤ 1000000000) :
    Calls Try.prog 97 #[.pointer (some ⟨g, 0, none⟩), .int .i64 n] w (SPost (Value.int .i64) g s (belowM s n a) w) := by
  have hL := lenOf_le hn hn2
  have HR := Lib.hid (show belowM s n a = belowT s n (lenOf n) 200 a from rfl)
  have HLe := Lib.hid (show Lib.bitLen (n - 1).toNat = lenOf n from rfl)
  have HM : Hid (∀ b x b', 0 ≤ b → b ≤ 1000000 → numO s (lenOf n) (some (0, b)) = some (x, b') → 0 ≤ b' ∧ b' ≤ 1000000) := Lib.hid fun b x b' hb0 hb1 hk => (numO_bd hk hb0 hb1).2.2
  generalize belowM s n a = R at *
  go_enter Try.func97, Try.ntmps97
  go_wp2_with fail
  refine (bitsLen_any _ _ (by omega) (by omega)).mono ?_
  rintro e w' ⟨rfl, rfl⟩
  rw [HLe.out]
  generalize lenOf n = L at *
  go_wp2
  go_loopw [13] (fun i wr => ∃ (k : Nat) (b : Int), k ≤ 200 ∧ i = .int .i64 k ∧ Hid (R = belowT s n L (200 - k) b) ∧ StrAt wr g s b ∧ 0 ≤ b ∧ b ≤ 1000000 ∧ Chg g (g + 1) w' wr) (fun i _ => 200 - (intOf i).toNat)
  case atStart => exact ⟨0, a, Nat.zero_le _, rfl, HR, h, h0, h1, Chg.refl _ _ _⟩
  case round =>
    clear h
    obtain ⟨k, b, hk, rfl, hx, hs, hb0, hb1, hc⟩ := hrel
    by_cases hlt : k < 200
    · have hs200 : 200 - k = (199 - k) + 1 := by omega
      rw [hs200] at hx
      clear hs200
      go_wp2_with fail
      refine (number_any _ _ _ _ _ hs hb0 hb1 (by omega)).mono ?_
      rintro e w2 ⟨hy, hno, hc2⟩
      have hc3 := hc.trans hc2
      clear hs hc hc2
      cases hN : numO s L (some (0, b)) with
      | none =>
        obtain ⟨z, b2, rfl, hs2⟩ := hno hN
        have E := Lib.hid (hx.out.trans (belowT_none hN))
        clear hy hno hN
        go_wp2
        go_ret2
        exact SPost.no E.out hs2 hc3
      | some p =>
        obtain ⟨v, b2⟩ := p
        obtain ⟨rfl, hs2⟩ := hy v b2 hN
        have hb2 := HM.out b v b2 hb0 hb1 hN
        clear hy hno
        by_cases hv : v < n
        · have E := Lib.hid (hx.out.trans (belowT_yes hN hv))
          clear hN
          go_wp2
          go_ret2
          exact SPost.yes E.out hs2 hc3
        · have E := Lib.hid (hx.out.trans (belowT_more hN hv))
          clear hN
          go_wp2
          go_roundw
          case rel => exact ⟨k + 1, b2, by omega, by go_num, by rw [show 200 - (k + 1) = 199 - k by omega]; exact E, hs2, hb2.1, hb2.2, hc3⟩
          case measure => simp [intOf]; omega
    · have E : Hid (R = none) := Lib.hid (by rw [hx.out, show 200 - k = 0 by omega]; rfl)
      go_wp2
      go_ret2
      exact SPost.no E.out hs hc
end Go.Proofs.Ytfkdmddfadkjoaa
