/- Noise added to a list: the model, and the program's. -/
import Derived.Test.YtfkdmddfadkjoaaBits
import Derived.Test.YtfkdmddfadkjoaaGeo
namespace Go.Proofs.Ytfkdmddfadkjoaa
open Go.RowKit

/-- Noise of a stream, added element by element. -/
def noiF (f : Int → Option (Int × Int)) : List Int → List Int → Int → Option (List Int)
  | [], acc, _ => some acc
  | x :: xs, acc, a => match f a with
    | none => none
    | some (v, b) => noiF f xs (acc ++ [x + v]) b
theorem noiF_end {f : Int → Option (Int × Int)} {acc : List Int} {a : Int} : noiF f [] acc a = some acc := rfl
theorem noiF_none {f : Int → Option (Int × Int)} {x : Int} {xs acc : List Int} {a : Int} (h : f a = none) : noiF f (x :: xs) acc a = none := by simp only [noiF, h]
theorem noiF_some {f : Int → Option (Int × Int)} {x v b : Int} {xs acc : List Int} {a : Int} (h : f a = some (v, b)) : noiF f (x :: xs) acc a = noiF f xs (acc ++ [x + v]) b := by simp only [noiF, h]
theorem noiF_len {f : Int → Option (Int × Int)} {xs acc l : List Int} {a : Int} (h : noiF f xs acc a = some l) : l.length = acc.length + xs.length := by
  induction xs generalizing acc a with
  | nil => rw [noiF_end] at h; cases h; simp
  | cons x xs ih =>
    cases hf : f a with
    | none => rw [noiF_none hf] at h; cases h
    | some r =>
      obtain ⟨v, b⟩ := r
      rw [noiF_some hf] at h
      have := ih h
      simp at this ⊢
      omega
theorem drop_at {xs : List Int} {k n : Nat} (hl : xs.length = n) (hk : k < n) : xs.drop k = xs[k]?.getD 0 :: xs.drop (k + 1) := by
  rw [List.drop_eq_getElem_cons (by omega), List.getElem?_eq_getElem (by omega)]
  rfl
def allN (l : List Int) : Bool := allR l (-1000000000) 1000000000
/-- The list with noise, if all of its numbers are in range. -/
def noiM (f : Int → Option (Int × Int)) (xs : List Int) : Option (List Int) :=
  match noiF f xs [] 0 with
  | none => none
  | some l => if allN l = true then some l else none
theorem noiM_1 {f : Int → Option (Int × Int)} {xs : List Int} (h : noiF f xs [] 0 = none) : noiM f xs = none := by simp only [noiM, h]
theorem noiM_2 {f : Int → Option (Int × Int)} {xs l : List Int} (h : noiF f xs [] 0 = some l) (h2 : allN l = false) : noiM f xs = none := by simp only [noiM, h]; rw [if_neg (by simp [h2])]
theorem noiM_3 {f : Int → Option (Int × Int)} {xs l : List Int} (h : noiF f xs [] 0 = some l) (h2 : allN l = true) : noiM f xs = some l := by simp only [noiM, h]; rw [if_pos h2]
theorem noiM_len {f : Int → Option (Int × Int)} {xs l : List Int} (h : noiM f xs = some l) : l.length = xs.length := by
  cases hf : noiF f xs [] 0 with
  | none => rw [noiM_1 hf] at h; cases h
  | some l2 =>
    have h2 := noiF_len hf
    cases hb : allN l2
    · rw [noiM_2 hf hb] at h; cases h
    · rw [noiM_3 hf hb] at h
      cases h
      simpa using h2
/-- An answer's list and its sign. -/
def lV (R : Option (List Int)) : List Int := R.getD []
def lB (R : Option (List Int)) : Bool := R.isSome
theorem lis_yes {l : List Int} {R : Option (List Int)} {A : Option Addr} {n c : Nat} (h : R = some l) (hn : n = l.length) : Ending.returned (.tuple #[.slice A n c, .bool true]) = .returned (.tuple #[.slice A (lV R).length c, .bool (lB R)]) := by subst h; subst hn; rfl
theorem lis_no {R : Option (List Int)} (h : R = none) : Ending.returned (.tuple #[.slice none 0 0, .bool false]) = .returned (.tuple #[.slice none (lV R).length 0, .bool (lB R)]) := by subst h; rfl
/-- What a function that gives a list and a sign leaves. -/
def LPost (R : Option (List Int)) (w : World) (e : Ending) (w' : World) : Prop :=
  ∃ A c, e = .returned (.tuple #[.slice A (lV R).length c, .bool (lB R)]) ∧ OwnI w' w.heap.size w'.heap.size A (lV R).length c (lV R) ∧ Below w.heap.size w w'
theorem LPost.no {R : Option (List Int)} {w w' : World} (h : R = none) (hb : Below w.heap.size w w') : LPost R w (.returned (.tuple #[.slice none 0 0, .bool false])) w' :=
  ⟨none, 0, lis_no h, by rw [h]; exact OwnI.of_own Own.nil_ (by simp [lV]), hb⟩
theorem LPost.yes {R : Option (List Int)} {l : List Int} {w w' : World} {A : Option Addr} {n c : Nat} (h : R = some l) (hn : n = l.length) (ho : OwnI w' w.heap.size w'.heap.size A n c l) (hb : Below w.heap.size w w') : LPost R w (.returned (.tuple #[.slice A n c, .bool true])) w' :=
  ⟨A, c, lis_yes h hn, by subst hn; rw [h]; exact ho, hb⟩

/-- A list of at most so many numbers in range. -/
def numB (xs : List Int) (m : Int) : Bool := decide ((xs.length : Int) ≤ m) && allN xs
theorem numB_1 {xs : List Int} {m : Int} (h : ¬ (xs.length : Int) ≤ m) : numB xs m = false := by simp [numB, h]
theorem numB_2 {xs : List Int} {m : Int} (h : allN xs = false) : numB xs m = false := by simp [numB, h]
theorem numB_3 {xs : List Int} {m : Int} (h : (xs.length : Int) ≤ m) (h2 : allN xs = true) : numB xs m = true := by simp [numB, h, h2]
theorem numB_of {xs : List Int} {m : Int} (h : numB xs m = true) : (xs.length : Int) ≤ m ∧ allN xs = true := by simpa [numB] using h

set_option maxHeartbeats 800000 in
theorem areNumbers_any (A : Option Addr) (n c : Nat) (xs : List Int) (m : Int) (w : World) (hx : Ints w A n xs) (hn : n ≤ 1099511627776) :
    Calls Try.prog 81 #[.slice A n c, .int .i64 m] w fun e w' => e = .returned (.bool (numB xs m)) ∧ w = w' := by
  have hl := Lib.hid hx.1
  by_cases hm : (n : Int) ≤ m
  · have hm2 : ¬ m < (n : Int) := by omega
    go_enter Try.func81, Try.ntmps81
    go_wp2
    go_loop [13] (fun t => ∃ k : Nat, k ≤ n ∧ t = .int .i64 k ∧ Hid (allR (xs.take k) (-1000000000) 1000000000 = true)) (fun t => n - (intOf t).toNat)
    case atStart => exact ⟨0, Nat.zero_le _, rfl, Lib.hid rfl⟩
    case round =>
      obtain ⟨k, hk, rfl, hall⟩ := hrel
      by_cases hlt : k < n
      · obtain ⟨ad, rfl, hc⟩ := hx.at_ hlt
        clear hx
        have R1 := Lib.hid (allR_succ (lo := -1000000000) (hi := 1000000000) (k := k) (xs := xs) (by rw [hl.out]; exact hlt) hall.out)
        have R2 := Lib.hid (allR_no (lo := -1000000000) (hi := 1000000000) (k := k) (xs := xs) (by rw [hl.out]; exact hlt))
        obtain ⟨x, hxe⟩ : ∃ x, xs[k]?.getD 0 = x := ⟨_, rfl⟩
        rw [hxe] at hc R1 R2
        clear hxe
        by_cases h0 : x < -1000000000
        · have R := Lib.hid (numB_2 (m := m) (R2.out (inR_no (fun h => absurd h.1 (by omega)))))
          clear R1 R2
          go_wp2
          go_ret
          exact ⟨ret_bool R.out.symm, rfl⟩
        · by_cases h1 : 1000000000 < x
          · have R := Lib.hid (numB_2 (m := m) (R2.out (inR_no (fun h => absurd h.2 (by omega)))))
            clear R1 R2
            go_wp2
            go_ret
            exact ⟨ret_bool R.out.symm, rfl⟩
          · have R := Lib.hid (R1.out (inR_yes (by omega) (by omega)))
            clear R1 R2
            go_wp2
            go_round
            case rel => exact ⟨k + 1, by omega, by go_num, R⟩
            case measure => simp [intOf]; omega
      · have hkn : k = n := by omega
        have R := Lib.hid (numB_3 (m := m) (by rw [hl.out]; exact hm) (show allN xs = true by have := hall.out; rwa [List.take_of_length_le (by rw [hl.out]; omega)] at this))
        clear hkn hx
        go_wp2
        go_ret
        exact ⟨ret_bool R.out.symm, rfl⟩
  · have R := Lib.hid (numB_1 (xs := xs) (m := m) (by rw [hl.out]; exact hm))
    have hm2 : m < (n : Int) := by omega
    clear hx
    go_enter Try.func81, Try.ntmps81
    go_wp2
    go_ret
    exact ⟨ret_bool R.out.symm, rfl⟩
end Go.Proofs.Ytfkdmddfadkjoaa
