/- Several small texts in one: Sch, Sch2, Sch3. -/
import Derived.Test.YtcjmapdeopffcaaZc
import Derived.Deep.RegionWith
import Derived.Deep.DeepCutAuto
namespace Go.Proofs.Ytcjmapdeopffcaa

section
open Go.RowKit

/-- All numbers below n pass. -/
def allTo (p : Nat → Bool) (n : Nat) : Bool := (List.range n).all p
theorem allTo_yes {p : Nat → Bool} {n : Nat} (h : ∀ i, i < n → p i = true) : allTo p n = true := by
  simp only [allTo, List.all_eq_true, List.mem_range]; exact h
theorem allTo_no {p : Nat → Bool} {n i : Nat} (hi : i < n) (h : p i = false) : allTo p n = false := by
  simp only [allTo, List.all_eq_false, List.mem_range]; exact ⟨i, hi, by simp [h]⟩
theorem allTo_of {p : Nat → Bool} {n : Nat} (h : allTo p n = true) (i : Nat) (hi : i < n) : p i = true := by
  simp only [allTo, List.all_eq_true, List.mem_range] at h; exact h i hi
theorem allTo_succ {p : Nat → Bool} {n : Nat} (h : allTo p n = true) (hp : p n = true) : allTo p (n + 1) = true :=
  allTo_yes fun i hi => by
    rcases Nat.lt_or_ge i n with h1 | h1
    · exact allTo_of h i h1
    · obtain rfl : i = n := by omega
      exact hp

def chOk (s : ByteArray) (i : Nat) : Bool := if h : i < s.size then inR ((s[i]'h).toNat : Int) 97 122 else true
def wordB (s : ByteArray) : Bool := inR s.size 1 8 && allTo (chOk s) s.size
theorem chOk_yes {s : ByteArray} {i : Nat} (h : i < s.size) (h1 : 97 ≤ ((s[i]'h).toNat : Int)) (h2 : ((s[i]'h).toNat : Int) ≤ 122) : chOk s i = true := by
  simp only [chOk, h, dite_true]; exact inR_yes h1 h2
theorem chOk_no {s : ByteArray} {i : Nat} (h : i < s.size) (h1 : ¬ (97 ≤ ((s[i]'h).toNat : Int) ∧ ((s[i]'h).toNat : Int) ≤ 122)) : chOk s i = false := by
  simp only [chOk, h, dite_true]; exact inR_no h1
end

section
open Go.RowKit

def nmEq (s t : ByteArray) : Bool := s.toList == t.toList
def freshB (vs : List (ByteArray × Int)) (nm : ByteArray) (n : Nat) : Bool := allTo (fun j => !nmEq (vN vs j) nm) n
def varOk (vs : List (ByteArray × Int)) (i : Nat) : Bool := wordB (vN vs i) && (inR (vL vs i) 2 8 && freshB vs (vN vs i) i)
def schB (vs : List (ByteArray × Int)) : Bool := inR vs.length 1 6 && allTo (varOk vs) vs.length
theorem schB_no {vs : List (ByteArray × Int)} {k n : Nat} (hl : vs.length = n) (hk : k < n) (h : varOk vs k = false) : schB vs = false := by
  unfold schB; rw [allTo_no (by omega) h, Bool.and_false]
theorem schB_len {vs : List (ByteArray × Int)} {n : Nat} (hl : vs.length = n) (h : ¬ (1 ≤ n ∧ n ≤ 6)) : schB vs = false := by
  unfold schB; rw [inR_no (by omega)]; rfl
theorem schB_yes {vs : List (ByteArray × Int)} {n : Nat} (hl : vs.length = n) (h : 1 ≤ n ∧ n ≤ 6) (ha : ∀ i, i < n → varOk vs i = true) : schB vs = true := by
  unfold schB; rw [inR_yes (by omega) (by omega), allTo_yes (by rw [hl]; exact ha)]; rfl
theorem schB_of {vs : List (ByteArray × Int)} (h : schB vs = true) : (1 ≤ vs.length ∧ vs.length ≤ 6) ∧ ∀ i, i < vs.length → 2 ≤ vL vs i ∧ vL vs i ≤ 8 := by
  simp only [schB, Bool.and_eq_true] at h
  have h1 := inR_of h.1
  refine ⟨by omega, fun i hi => ?_⟩
  have h2 := allTo_of h.2 i hi
  simp only [varOk, Bool.and_eq_true] at h2
  exact inR_of h2.2.1
theorem varOk_word {vs : List (ByteArray × Int)} {k : Nat} (h : wordB (vN vs k) = false) : varOk vs k = false := by simp [varOk, h]
theorem varOk_lev {vs : List (ByteArray × Int)} {k : Nat} (h : ¬ (2 ≤ vL vs k ∧ vL vs k ≤ 8)) : varOk vs k = false := by simp [varOk, inR_no h]
theorem varOk_name {vs : List (ByteArray × Int)} {k j : Nat} (hj : j < k) (h : nmEq (vN vs j) (vN vs k) = true) : varOk vs k = false := by
  have : freshB vs (vN vs k) k = false := allTo_no hj (by simp [h])
  simp [varOk, this]
theorem varOk_yes {vs : List (ByteArray × Int)} {k : Nat} (h1 : wordB (vN vs k) = true) (h2 : 2 ≤ vL vs k ∧ vL vs k ≤ 8) (h3 : ∀ j, j < k → nmEq (vN vs j) (vN vs k) = false) : varOk vs k = true := by
  have : freshB vs (vN vs k) k = true := allTo_yes fun j hj => by simp [h3 j hj]
  simp [varOk, h1, inR_yes h2.1 h2.2, this]
end

section
open Go.RowKit

def FoundV (vs : List (ByteArray × Int)) (nm : ByteArray) (n : Nat) (w : World) (e : Ending) (w' : World) : Prop :=
  ∃ r : Int, e = .returned (.int .i64 r) ∧ (freshB vs nm n = true → r < 0) ∧ (freshB vs nm n = false → 0 ≤ r) ∧ Below w.heap.size w w'

theorem VarsR.take {w : World} {A : Option Addr} {n k : Nat} {vs : List (ByteArray × Int)} (h : VarsR w A n vs) (hk : k ≤ n) : VarsR w A k (vs.take k) := by
  have hl := h.1
  refine ⟨by rw [List.length_take]; omega, fun hp => ?_⟩
  obtain ⟨ad, e, hc⟩ := h.2 (by omega)
  refine ⟨ad, e, fun j hj => ?_⟩
  have := hc j (by omega)
  simpa only [vN, vL, List.getElem?_take, if_pos hj] using this
theorem freshB_take {vs : List (ByteArray × Int)} {nm : ByteArray} {k : Nat} : freshB (vs.take k) nm k = freshB vs nm k := by
  cases h : freshB vs nm k
  · cases h' : freshB (vs.take k) nm k
    · rfl
    · have : freshB vs nm k = true := allTo_yes fun j hj => by
        have := allTo_of h' j hj
        simpa only [vN, List.getElem?_take, if_pos hj] using this
      rw [h] at this; cases this
  · exact allTo_yes fun j hj => by
      have := allTo_of h j hj
      simpa only [vN, List.getElem?_take, if_pos hj] using this
end
end Go.Proofs.Ytcjmapdeopffcaa
