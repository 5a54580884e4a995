/- How many different values a list has: plain law; the insertion into a rising list. -/
import Derived.Test.YthphjfelpbfdmaaMems
namespace Go.Proofs.Ythphjfelpbfdmaa
open Go.RowKit

def dcR : List Int → Nat
  | [] => 0
  | a :: r => dcR r + (if a ∈ r then 0 else 1)
/-- How many different values a list has. -/
def dcnt (l : List Int) : Nat := dcR l.reverse
theorem dcnt_snoc (l : List Int) (a : Int) : dcnt (l ++ [a]) = dcnt l + (if a ∈ l then 0 else 1) := by
  unfold dcnt
  rw [List.reverse_append, List.reverse_singleton, List.singleton_append]
  simp only [dcR, List.mem_reverse]
theorem dcnt_le (l : List Int) : dcnt l ≤ l.length := by
  unfold dcnt
  rw [← List.length_reverse]
  generalize l.reverse = r
  induction r with
  | nil => simp [dcR]
  | cons a r ih => simp only [dcR, List.length_cons]; split <;> omega
/-- Strictly rising. -/
def Srt (xs : List Int) : Prop := List.Pairwise (· < ·) xs
/-- What the insertion gives. -/
def PutR (xs : List Int) (v : Int) (ys : List Int) : Prop :=
  ∃ k, k ≤ xs.length ∧ (∀ t, t < k → xs[t]?.getD 0 < v) ∧ ((k < xs.length ∧ xs[k]?.getD 0 = v ∧ ys = xs) ∨ ((k < xs.length → v < xs[k]?.getD 0) ∧ ys = xs.take k ++ [v] ++ xs.drop k))
theorem getD_mem {xs : List Int} {t : Nat} (h : t < xs.length) : xs[t]?.getD 0 ∈ xs := by
  rw [List.getElem?_eq_getElem h]; exact List.getElem_mem h
theorem put_law {xs ys : List Int} {v : Int} (hs : Srt xs) (h : PutR xs v ys) : Srt ys ∧ (∀ u, u ∈ ys ↔ u ∈ xs ∨ u = v) ∧ ys.length = xs.length + (if v ∈ xs then 0 else 1) := by
  obtain ⟨k, hk, hlt, h1⟩ := h
  rcases h1 with ⟨hkl, he, hy⟩ | ⟨hgt, rfl⟩
  · have hm : v ∈ xs := by rw [← he]; exact getD_mem hkl
    rw [hy]
    refine ⟨hs, fun u => ⟨.inl, ?_⟩, by simp [hm]⟩
    rintro (h | rfl)
    · exact h
    · exact hm
  · have ha : ∀ u ∈ xs.take k, u < v := fun u hu => by
      obtain ⟨t, ht, e⟩ := List.mem_iff_getElem.1 hu
      rw [List.length_take] at ht
      have := hlt t (by omega)
      rw [List.getElem?_eq_getElem (by omega)] at this
      rw [← e, List.getElem_take]; exact this
    have hb : ∀ u ∈ xs.drop k, v < u := fun u hu => by
      obtain ⟨t, ht, e⟩ := List.mem_iff_getElem.1 hu
      rw [List.length_drop] at ht
      rw [List.getElem_drop] at e
      have h2 := hgt (by omega)
      rw [List.getElem?_eq_getElem (by omega)] at h2
      rcases Nat.eq_zero_or_pos t with h0 | h0
      · subst h0; simp only [Nat.add_zero] at e; rw [← e]; exact h2
      · have := List.pairwise_iff_getElem.1 hs k (k + t) (by omega) (by omega) (by omega)
        rw [e] at this
        have h3 : v < xs[k] := h2
        omega
    have hnm : v ∉ xs := fun hm => by
      rw [← List.take_append_drop k xs, List.mem_append] at hm
      rcases hm with hm | hm
      · have := ha v hm; omega
      · have := hb v hm; omega
    refine ⟨?_, fun u => ?_, ?_⟩
    · unfold Srt at *
      rw [List.append_assoc, List.pairwise_append]
      refine ⟨hs.sublist (List.take_sublist k xs), ?_, fun x hx y hy => ?_⟩
      · rw [List.singleton_append, List.pairwise_cons]
        exact ⟨hb, hs.sublist (List.drop_sublist k xs)⟩
      · rw [List.singleton_append, List.mem_cons] at hy
        rcases hy with rfl | hy
        · exact ha x hx
        · have := ha x hx; have := hb y hy; omega
    · rw [List.mem_append, List.mem_append, List.mem_singleton]
      constructor
      · rintro ((h | h) | h)
        · exact .inl (List.mem_of_mem_take h)
        · exact .inr h
        · exact .inl (List.mem_of_mem_drop h)
      · rintro (h | h)
        · rw [← List.take_append_drop k xs, List.mem_append] at h
          rcases h with h | h
          · exact .inl (.inl h)
          · exact .inr h
        · exact .inl (.inr h)
    · simp [hnm]; omega

/-- One step of a rising list that holds what a list holds. -/
structure Holds (V l : List Int) : Prop where
  s : Srt V
  m : ∀ u, u ∈ V ↔ u ∈ l
  n : V.length = dcnt l
theorem Holds.nil_ : Holds [] [] := ⟨List.Pairwise.nil, fun _ => Iff.rfl, rfl⟩
theorem Holds.put {V l ys : List Int} {v : Int} (h : Holds V l) (hp : PutR V v ys) : Holds ys (l ++ [v]) := by
  obtain ⟨h1, h2, h3⟩ := put_law h.s hp
  refine ⟨h1, fun u => ?_, ?_⟩
  · rw [h2, List.mem_append, List.mem_singleton, h.m]
  · rw [h3, h.n, dcnt_snoc]
    by_cases e : v ∈ l
    · simp [e, (h.m v).2 e]
    · simp [e, mt (h.m v).1 e]
/-- The values of the records of one class. -/
def clsV (vs : List (ByteArray × Int)) (us : List Int) (rs : List RecD) (tg i j : Nat) : List Int := (linkK (lnk vs us rs rs i) j).map fun k => (rV rs k.toNat)[tg]?.getD 0
theorem clsV_yes {vs : List (ByteArray × Int)} {us : List Int} {rs : List RecD} {tg i j : Nat} (h : lnk vs us rs rs i j = true) : clsV vs us rs tg i (j + 1) = clsV vs us rs tg i j ++ [(rV rs j)[tg]?.getD 0] := by
  unfold clsV; rw [linkK_yes h]; simp
theorem clsV_no {vs : List (ByteArray × Int)} {us : List Int} {rs : List RecD} {tg i j : Nat} (h : lnk vs us rs rs i j = false) : clsV vs us rs tg i (j + 1) = clsV vs us rs tg i j := by
  unfold clsV; rw [linkK_no h]
def ldD (vs : List (ByteArray × Int)) (us : List Int) (rs : List RecD) (tg i : Nat) : Int := (dcnt (clsV vs us rs tg i rs.length) : Int)
def ldN (vs : List (ByteArray × Int)) (us : List Int) (rs : List RecD) (tg : Nat) : Nat → Int
  | 0 => 0
  | i + 1 => if ldN vs us rs tg i = 0 ∨ ldD vs us rs tg i < ldN vs us rs tg i then ldD vs us rs tg i else ldN vs us rs tg i
theorem clsV_len (vs : List (ByteArray × Int)) (us : List Int) (rs : List RecD) (tg i j : Nat) : (clsV vs us rs tg i j).length ≤ j := by
  unfold clsV; rw [List.length_map]; exact linkK_len _ _
theorem ldD_bd (vs : List (ByteArray × Int)) (us : List Int) (rs : List RecD) (tg i : Nat) : 0 ≤ ldD vs us rs tg i ∧ ldD vs us rs tg i ≤ rs.length := by
  have h1 := dcnt_le (clsV vs us rs tg i rs.length)
  have h2 := clsV_len vs us rs tg i rs.length
  unfold ldD; omega
theorem ldN_bd (vs : List (ByteArray × Int)) (us : List Int) (rs : List RecD) (tg i : Nat) : 0 ≤ ldN vs us rs tg i ∧ ldN vs us rs tg i ≤ rs.length := by
  induction i with
  | zero => simp [ldN]
  | succ i ih => have := ldD_bd vs us rs tg i; simp only [ldN]; split <;> omega
theorem ldN_take {vs : List (ByteArray × Int)} {us : List Int} {rs : List RecD} {tg i : Nat} (h : ldN vs us rs tg i = 0 ∨ ldD vs us rs tg i < ldN vs us rs tg i) : ldN vs us rs tg (i + 1) = ldD vs us rs tg i := by simp only [ldN]; rw [if_pos h]
theorem ldN_keep {vs : List (ByteArray × Int)} {us : List Int} {rs : List RecD} {tg i : Nat} (h : ¬ (ldN vs us rs tg i = 0 ∨ ldD vs us rs tg i < ldN vs us rs tg i)) : ldN vs us rs tg (i + 1) = ldN vs us rs tg i := by simp only [ldN]; rw [if_neg h]
def ldB (tg : Int) (vs : List (ByteArray × Int)) (rs : List RecD) (us : List Int) : Bool := keyedB vs rs us && (inR tg 0 ((vs.length : Int) - 1) && !hasB us tg)
def ldV (tg : Int) (vs : List (ByteArray × Int)) (rs : List RecD) (us : List Int) : Int := if ldB tg vs rs us = true then ldN vs us rs tg.toNat rs.length else 0
end Go.Proofs.Ythphjfelpbfdmaa
