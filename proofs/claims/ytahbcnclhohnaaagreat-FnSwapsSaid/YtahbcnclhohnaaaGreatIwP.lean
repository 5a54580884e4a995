/- The swap plan of the program: what is taken, in plain lists. -/
import Derived.Test.YtahbcnclhohnaaaGreatZl
namespace Go.Proofs.YtahbcnclhohnaaaGreat
open Go.RowKit

/-- The candidates taken, in the order of the shuffle. -/
def pkL (C : List (List Int)) (most : Int) (ord : List Int) : Nat → List Nat
  | 0 => []
  | j + 1 => if spYes C most (spSt C most ord j) (ord[j]?.getD 0).toNat = true then pkL C most ord j ++ [(ord[j]?.getD 0).toNat] else pkL C most ord j
/-- The records used, as the program keeps them. -/
def usedA (L : List Int) : Array Value := ((List.range 40).map fun (v : Nat) => Value.bool (hasB L (v : Int))).toArray
theorem hasB_dec (xs : List Int) (v : Int) : hasB xs v = decide (v ∈ xs) := by
  cases hb : hasB xs v
  · exact (decide_eq_false fun hm => by rw [hasB_mem.2 hm] at hb; cases hb).symm
  · exact (decide_eq_true (hasB_mem.1 hb)).symm
theorem usedA_at {L : List Int} {v : Nat} (h : v < 40) : (usedA L)[v]? = some (.bool (hasB L (v : Int))) := by simp [usedA, h]
theorem usedA_set {L : List Int} {a b : Nat} : ((usedA L).setIfInBounds a (.bool true)).setIfInBounds b (.bool true) = usedA (L ++ [(a : Int), (b : Int)]) := by
  apply Array.ext_getElem?
  intro t
  have hs : (usedA L).size = 40 := by simp [usedA]
  have hs2 : (usedA (L ++ [(a : Int), (b : Int)])).size = 40 := by simp [usedA]
  rw [Array.getElem?_setIfInBounds, Array.getElem?_setIfInBounds, Array.size_setIfInBounds, hs]
  by_cases ht : t < 40
  · rw [usedA_at ht, usedA_at ht, hasB_dec, hasB_dec]
    by_cases e1 : b = t
    · subst e1; simp [ht]
    · by_cases e2 : a = t
      · subst e2; simp [ht, e1]
      · rw [if_neg e1, if_neg e2]
        have h1 : ¬ (t : Int) = (a : Int) := by omega
        have h2 : ¬ (t : Int) = (b : Int) := by omega
        simp [h1, h2]
  · rw [Array.getElem?_eq_none (by omega), Array.getElem?_eq_none (by omega)]
    split
    · rw [if_neg (by omega)]
    · split
      · rw [if_neg (by omega)]
      · rfl
section
variable {C : List (List Int)} {most : Int} {ord : List Int} {j : Nat}
theorem pkL_yes {k : Nat} (hk : (ord[j]?.getD 0) = (k : Int)) (h : spYes C most (spSt C most ord j) k = true) : pkL C most ord (j + 1) = pkL C most ord j ++ [k] := by rw [pkL, hk, Int.toNat_natCast, if_pos h]
theorem pkL_no {k : Nat} (hk : (ord[j]?.getD 0) = (k : Int)) (h : spYes C most (spSt C most ord j) k = false) : pkL C most ord (j + 1) = pkL C most ord j := by rw [pkL, hk, Int.toNat_natCast, if_neg (by simp [h])]
/-- What the two ways of keeping books have to do with each other. -/
structure PkI (C : List (List Int)) (s : SpS) (l : List Nat) : Prop where
  len : l.length = s.n
  lt : ∀ k, k ∈ l → k < C.length
  mem : ∀ k, s.ch[k]?.getD false = true ↔ k ∈ l
  us : ∀ k, k ∈ l → hasB s.used (spP C k 0) = true
  nd : l.Nodup
theorem pk_inv (hb : ∀ i, i < C.length → 0 ≤ ord[i]?.getD 0 ∧ ord[i]?.getD 0 < (C.length : Int)) : ∀ j, j ≤ C.length → PkI C (spSt C most ord j) (pkL C most ord j) := by
  intro j
  induction j with
  | zero =>
    intro _
    refine ⟨rfl, fun k h => by simp [pkL] at h, fun k => ?_, fun k h => by simp [pkL] at h, by simp [pkL]⟩
    have : (spSt C most ord 0).ch[k]?.getD false = false := by
      simp only [spSt]
      rw [List.getElem?_replicate]
      split <;> rfl
    rw [this]
    simp [pkL]
  | succ j ih =>
    intro hj
    have I := ih (by omega)
    obtain ⟨h0, h1⟩ := hb j (by omega)
    obtain ⟨k, hk⟩ := Int.eq_ofNat_of_zero_le h0
    have hkl : k < C.length := by omega
    cases h : spYes C most (spSt C most ord j) k
    · rw [pkL_no hk h, spSt, hk, Int.toNat_natCast, spStep_no h]
      exact I
    · have hl := (spSt_len C most ord j).1
      rw [pkL_yes hk h, spSt, hk, Int.toNat_natCast, spStep_yes h]
      have hnot : k ∉ pkL C most ord j := fun hm => by
        have := I.us k hm
        unfold spYes at h
        rw [this] at h
        simp at h
      generalize spSt C most ord j = s at *
      generalize pkL C most ord j = l at *
      refine ⟨by simp [I.len], fun q hq => ?_, fun q => ?_, fun q hq => ?_, ?_⟩
      · rcases List.mem_append.1 hq with hq | hq
        · exact I.lt q hq
        · simp at hq; omega
      · show (s.ch.set k true)[q]?.getD false = true ↔ _
        rw [List.mem_append, List.mem_singleton]
        by_cases e : q = k
        · subst e
          rw [List.getElem?_set_self (by omega)]
          simp
        · rw [List.getElem?_set_ne (by omega), I.mem q]
          simp [e]
      · show hasB (s.used ++ [spP C k 0, spP C k 1]) (spP C q 0) = true
        rw [hasB_mem, List.mem_append]
        rcases List.mem_append.1 hq with hq | hq
        · exact .inl (hasB_mem.1 (I.us q hq))
        · simp at hq; subst hq; exact .inr (by simp)
      · rw [List.nodup_append]
        refine ⟨I.nd, by simp, fun a ha b hb' e => ?_⟩
        simp at hb'
        subst hb'
        subst e
        exact hnot ha
end
theorem asc_unique : ∀ l m : List Nat, l.Pairwise (· < ·) → m.Pairwise (· < ·) → (∀ k, k ∈ l ↔ k ∈ m) → l = m := by
  intro l
  induction l with
  | nil =>
    intro m _ _ h
    cases m with
    | nil => rfl
    | cons b m => exact absurd ((h b).2 (by simp)) (by simp)
  | cons a l ih =>
    intro m hl hm h
    cases m with
    | nil => exact absurd ((h a).1 (by simp)) (by simp)
    | cons b m =>
      rw [List.pairwise_cons] at hl hm
      have e : a = b := by
        rcases List.mem_cons.1 ((h a).1 (by simp)) with e | e
        · exact e
        · rcases List.mem_cons.1 ((h b).2 (by simp)) with e2 | e2
          · exact e2.symm
          · have h1 := hm.1 a e; have h2 := hl.1 b e2; omega
      subst e
      rw [ih m hl.2 hm.2 fun k => ?_]
      constructor
      · intro hk
        have h1 := hl.1 k hk
        rcases List.mem_cons.1 ((h k).1 (List.mem_cons_of_mem _ hk)) with e | e
        · omega
        · exact e
      · intro hk
        have h1 := hm.1 k hk
        rcases List.mem_cons.1 ((h k).2 (List.mem_cons_of_mem _ hk)) with e | e
        · omega
        · exact e
/-- How two pairs compare. -/
def pcV (r s : List Int) : Int := if cmpV (r[0]?.getD 0) (s[0]?.getD 0) = 0 then cmpV (r[1]?.getD 0) (s[1]?.getD 0) else cmpV (r[0]?.getD 0) (s[0]?.getD 0)
def LexP (r s : List Int) : Prop := ∃ a b c d : Int, r = [a, b] ∧ s = [c, d] ∧ (a < c ∨ (a = c ∧ b < d))
theorem cmpV_lt {x y : Int} (h : x < y) : cmpV x y = -1 := by unfold cmpV; rw [if_pos h]
theorem cmpV_gt {x y : Int} (h : y < x) : cmpV x y = 1 := by unfold cmpV; rw [if_neg (by omega), if_pos h]
theorem cmpV_eq (x : Int) : cmpV x x = 0 := by unfold cmpV; rw [if_neg (by omega), if_neg (by omega)]
theorem pcV_lt {r s : List Int} (h : LexP r s) : pcV r s = -1 ∧ pcV s r = 1 := by
  obtain ⟨a, b, c, d, rfl, rfl, h⟩ := h
  unfold pcV
  simp only [List.getElem?_cons_zero, Option.getD_some, List.getElem?_cons_succ]
  rcases h with h | ⟨rfl, h⟩
  · rw [cmpV_lt h, cmpV_gt h, if_neg (by omega), if_neg (by omega)]
    exact ⟨rfl, rfl⟩
  · rw [cmpV_eq, if_pos rfl, if_pos rfl, cmpV_lt h, cmpV_gt h]
    exact ⟨rfl, rfl⟩
theorem pcV_eq (r : List Int) : pcV r r = 0 := by unfold pcV; rw [cmpV_eq, if_pos rfl, cmpV_eq]
section
variable {vs : List (ByteArray × Int)} {us : List Int} {rs : List RecD} {m : Nat}
theorem candT_fst {r : List Int} : ∀ j, r ∈ candT vs us rs m j → ∃ i k : Nat, r = [(i : Int), (k : Int)] ∧ i < j := by
  intro j
  induction j with
  | zero => intro h; cases h
  | succ j ih =>
    intro h
    rcases List.mem_append.1 h with h | h
    · obtain ⟨i, k, e, hi⟩ := ih h
      exact ⟨i, k, e, by omega⟩
    · obtain ⟨k, e, _⟩ := candR_mem h
      exact ⟨j, k, e, by omega⟩
theorem candR_asc (j t : Nat) : (candR vs us rs j t).Pairwise LexP := by
  unfold candR
  rw [List.pairwise_map]
  refine List.Pairwise.imp (fun {a b} h => ?_) (List.Pairwise.filter _ List.pairwise_lt_range)
  exact ⟨(j : Int), ((j + 1 + a : Nat) : Int), (j : Int), ((j + 1 + b : Nat) : Int), rfl, rfl, .inr ⟨rfl, by omega⟩⟩
theorem candT_asc : ∀ j, (candT vs us rs m j).Pairwise LexP := by
  intro j
  induction j with
  | zero => exact List.Pairwise.nil
  | succ j ih =>
    show (candT vs us rs m j ++ candR vs us rs j (m - (j + 1))).Pairwise LexP
    rw [List.pairwise_append]
    refine ⟨ih, candR_asc _ _, fun a ha b hb => ?_⟩
    obtain ⟨i, k, e, hi⟩ := candT_fst j ha
    obtain ⟨k2, e2, _⟩ := candR_mem hb
    exact ⟨(i : Int), (k : Int), (j : Int), (k2 : Int), e, e2, .inl (by omega)⟩
end
/-- A place within the first N. -/
def clN (N k : Nat) : Nat := min k (N - 1)
def cfN (N x y : Nat) : Int := if clN N x < clN N y then -1 else if clN N y < clN N x then 1 else 0
theorem clN_lt {N k : Nat} (h : 0 < N) : clN N k < N := by unfold clN; omega
theorem clN_id {N k : Nat} (h : k < N) : clN N k = k := by unfold clN; omega
theorem pcV_cf {C : List (List Int)} (hC : C.Pairwise LexP) (h0 : 0 < C.length) (x y : Nat) : pcV (C[clN C.length x]?.getD []) (C[clN C.length y]?.getD []) = cfN C.length x y := by
  have hx := clN_lt (k := x) h0
  have hy := clN_lt (k := y) h0
  unfold cfN
  generalize clN C.length x = a at *
  generalize clN C.length y = b at *
  have hp := List.pairwise_iff_getElem.1 hC
  rw [List.getElem?_eq_getElem hx, List.getElem?_eq_getElem hy, Option.getD_some, Option.getD_some]
  rcases Nat.lt_trichotomy a b with h | h | h
  · rw [if_pos h, (pcV_lt (hp a b hx hy h)).1]
  · subst h
    rw [if_neg (by omega), if_neg (by omega), pcV_eq]
  · rw [if_neg (by omega), if_pos h, (pcV_lt (hp b a hy hx h)).2]
end Go.Proofs.YtahbcnclhohnaaaGreat
