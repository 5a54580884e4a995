/- Geographies: parents, depths, levels, ancestors, leaves: plain laws. -/
import Derived.Test.YtfanpbfmnckmnaaGreatZh
namespace Go.Proofs.YtfanpbfmnckmnaaGreat
open Go.RowKit

/-- The i-th parent. -/
def gP (ps : List Int) (i : Nat) : Int := ps[i]?.getD 0
def parOk (ps : List Int) (i : Nat) : Bool := decide (i = 0) || inR (gP ps i) 0 ((i : Int) - 1)
def geoB (ps : List Int) : Bool := inR ps.length 1 30 && (decide (gP ps 0 = -1) && allTo (parOk ps) ps.length)
structure GeoOk (ps : List Int) (n : Nat) : Prop where
  len : ps.length = n
  pos : 1 ≤ n
  most : n ≤ 30
  root : gP ps 0 = -1
  up : ∀ i, 0 < i → i < n → 0 ≤ gP ps i ∧ gP ps i ≤ (i : Int) - 1
theorem geoB_of {ps : List Int} (h : geoB ps = true) : GeoOk ps ps.length := by
  unfold geoB at h
  simp only [Bool.and_eq_true, decide_eq_true_eq] at h
  obtain ⟨h1, h2, h3⟩ := h
  have hr := inR_of h1
  refine ⟨rfl, by omega, by omega, h2, fun i h0 hi => ?_⟩
  have := allTo_of h3 i hi
  unfold parOk at this
  simp only [Bool.or_eq_true, decide_eq_true_eq] at this
  rcases this with h9 | h9
  · omega
  · exact inR_of h9
theorem geoB_1 {ps : List Int} (h : inR ps.length 1 30 = false) : geoB ps = false := by unfold geoB; rw [h]; rfl
theorem geoB_2 {ps : List Int} (h : ¬ gP ps 0 = -1) : geoB ps = false := by unfold geoB; rw [decide_eq_false h]; simp
theorem geoB_3 {ps : List Int} {i : Nat} (h : parOk ps i = false) (hi : i < ps.length) : geoB ps = false := by
  unfold geoB; rw [allTo_no hi h]; simp
theorem geoB_4 {ps : List Int} (h1 : inR ps.length 1 30 = true) (h2 : gP ps 0 = -1) (h3 : allTo (parOk ps) ps.length = true) : geoB ps = true := by
  unfold geoB; rw [h1, decide_eq_true h2, h3]; rfl
/-- The parent of i as an index. -/
def par (ps : List Int) (i : Nat) : Nat := (gP ps i).toNat
def depF (ps : List Int) : Nat → Nat → Nat
  | 0, _ => 0
  | f + 1, i => if i = 0 then 0 else depF ps f (par ps i) + 1
def dep (ps : List Int) (i : Nat) : Nat := depF ps i i
section
variable {ps : List Int} {n i : Nat}
theorem GeoOk.par_lt (h : GeoOk ps n) (h0 : 0 < i) (hi : i < n) : par ps i < i := by
  have := h.up i h0 hi
  unfold par
  omega
theorem GeoOk.par_eq (h : GeoOk ps n) (h0 : 0 < i) (hi : i < n) : gP ps i = (par ps i : Int) := by
  have := h.up i h0 hi
  unfold par
  omega
theorem depF_enough (h : GeoOk ps n) : ∀ (f i : Nat), i < n → i ≤ f → depF ps f i = depF ps i i := by
  intro f
  induction f using Nat.strongRecOn with
  | _ f ih =>
    intro i hi hf
    cases f with
    | zero => obtain rfl : i = 0 := by omega
              rfl
    | succ f =>
      cases i with
      | zero => simp [depF]
      | succ i =>
        have hp : par ps (i + 1) < i + 1 := h.par_lt (Nat.succ_pos i) hi
        rw [depF, if_neg (Nat.succ_ne_zero i), depF, if_neg (Nat.succ_ne_zero i), ih f (by omega) _ (by omega) (by omega)]
        rcases Nat.lt_or_ge i f with h9 | h9
        · rw [ih i (by omega) _ (by omega) (by omega)]
        · obtain rfl : i = f := by omega
          rw [ih i (by omega) _ (by omega) (by omega)]
theorem dep_zero : dep ps 0 = 0 := rfl
theorem dep_step (h : GeoOk ps n) (h0 : 0 < i) (hi : i < n) : dep ps i = dep ps (par ps i) + 1 := by
  obtain ⟨k, rfl⟩ : ∃ k, i = k + 1 := ⟨i - 1, by omega⟩
  unfold dep
  have hp := h.par_lt h0 hi
  rw [depF, if_neg (Nat.succ_ne_zero k), depF_enough h k _ (by omega) (by omega)]
theorem dep_le (h : GeoOk ps n) : ∀ i, i < n → dep ps i ≤ i := by
  intro i
  induction i using Nat.strongRecOn with
  | _ i ih =>
    intro hi
    rcases Nat.eq_zero_or_pos i with rfl | h0
    · exact Nat.le_refl _
    · have hp := h.par_lt h0 hi
      rw [dep_step h h0 hi]
      have := ih _ hp (by omega)
      omega
end
/-- The first k areas that lie at a level. -/
def lvl (ps : List Int) (v : Int) : Nat → List Int
  | 0 => []
  | k + 1 => if (dep ps k : Int) = v then lvl ps v k ++ [(k : Int)] else lvl ps v k
theorem lvl_yes {ps : List Int} {v : Int} {k : Nat} (h : (dep ps k : Int) = v) : lvl ps v (k + 1) = lvl ps v k ++ [(k : Int)] := by rw [lvl, if_pos h]
theorem lvl_no {ps : List Int} {v : Int} {k : Nat} (h : ¬ (dep ps k : Int) = v) : lvl ps v (k + 1) = lvl ps v k := by rw [lvl, if_neg h]
theorem lvl_len {ps : List Int} {v : Int} : ∀ k, (lvl ps v k).length ≤ k := by
  intro k
  induction k with
  | zero => exact Nat.le_refl _
  | succ k ih =>
    by_cases h : (dep ps k : Int) = v
    · rw [lvl_yes h, List.length_append]; simp; exact ih
    · rw [lvl_no h]; omega
theorem lvl_mem {ps : List Int} {v : Int} : ∀ {k : Nat} {x : Int}, x ∈ lvl ps v k ↔ ∃ j : Nat, j < k ∧ x = j ∧ (dep ps j : Int) = v := by
  intro k
  induction k with
  | zero => intro x; simp [lvl]
  | succ k ih =>
    intro x
    by_cases h : (dep ps k : Int) = v
    · rw [lvl_yes h, List.mem_append, ih]
      constructor
      · rintro (⟨j, h1, h2, h3⟩ | h1)
        · exact ⟨j, by omega, h2, h3⟩
        · exact ⟨k, by omega, by simpa using h1, h⟩
      · rintro ⟨j, h1, h2, h3⟩
        rcases Nat.lt_or_ge j k with h4 | h4
        · exact .inl ⟨j, h4, h2, h3⟩
        · obtain rfl : j = k := by omega
          exact .inr (by simp [h2])
    · rw [lvl_no h, ih]
      constructor
      · rintro ⟨j, h1, h2, h3⟩
        exact ⟨j, by omega, h2, h3⟩
      · rintro ⟨j, h1, h2, h3⟩
        rcases Nat.lt_or_ge j k with h4 | h4
        · exact ⟨j, h4, h2, h3⟩
        · obtain rfl : j = k := by omega
          exact absurd h3 h
theorem lvl_rise {ps : List Int} {v : Int} : ∀ k, (lvl ps v k).Pairwise (· < ·) := by
  intro k
  induction k with
  | zero => exact List.Pairwise.nil
  | succ k ih =>
    by_cases h : (dep ps k : Int) = v
    · rw [lvl_yes h]
      refine List.pairwise_append.2 ⟨ih, by simp, fun a ha b hb => ?_⟩
      obtain ⟨j, h1, h2, _⟩ := lvl_mem.1 ha
      have : b = k := by simpa using hb
      omega
    · rw [lvl_no h]; exact ih
/-- t steps towards the root. -/
def upN (ps : List Int) : Nat → Nat → Nat
  | i, 0 => i
  | i, t + 1 => upN ps (par ps i) t
/-- The ancestor at a level, or -1. -/
def anc (ps : List Int) (i : Nat) (v : Int) : Int := if v < 0 ∨ (dep ps i : Int) < v then -1 else (upN ps i (dep ps i - v.toNat) : Nat)
section
variable {ps : List Int} {n : Nat}
theorem anc_no {i : Nat} {v : Int} (h : v < 0 ∨ (dep ps i : Int) < v) : anc ps i v = -1 := by unfold anc; rw [if_pos h]
theorem anc_yes {i : Nat} {v : Nat} (h : v ≤ dep ps i) : anc ps i (v : Int) = (upN ps i (dep ps i - v) : Nat) := by
  unfold anc; rw [if_neg (by omega), Int.toNat_natCast]
theorem upN_dep (h : GeoOk ps n) : ∀ (t i : Nat), i < n → t ≤ dep ps i → upN ps i t < n ∧ dep ps (upN ps i t) = dep ps i - t := by
  intro t
  induction t with
  | zero => intro i hi _; exact ⟨hi, rfl⟩
  | succ t ih =>
    intro i hi ht
    have h0 : 0 < i := by
      rcases Nat.eq_zero_or_pos i with rfl | h0
      · rw [dep_zero] at ht; omega
      · exact h0
    have hp := h.par_lt h0 hi
    have hd := dep_step h h0 hi
    obtain ⟨h1, h2⟩ := ih (par ps i) (by omega) (by omega)
    exact ⟨h1, by rw [upN, h2]; omega⟩
theorem anc_mem (h : GeoOk ps n) {i : Nat} {v : Int} (hi : i < n) (h1 : 0 ≤ anc ps i v) : anc ps i v ∈ lvl ps v n := by
  unfold anc at h1 ⊢
  split
  · rename_i h9
    rw [if_pos h9] at h1
    omega
  · rename_i h9
    obtain ⟨h2, h3⟩ := upN_dep h (dep ps i - v.toNat) i hi (by omega)
    exact lvl_mem.2 ⟨_, h2, rfl, by omega⟩
end
/-- The index of a number in a list, or the list's length. -/
def posL (xs : List Int) (a : Int) : Nat := xs.findIdx (fun x => x == a)
/-- Area i has no children. -/
def leafB (ps : List Int) (i : Int) : Bool := !hasB ps i
def atLeaf (ps : List Int) (i : Int) : Bool := inR i 0 ((ps.length : Int) - 1) && leafB ps i
/-- The first k leaves. -/
def lvsL (ps : List Int) : Nat → List Int
  | 0 => []
  | k + 1 => if leafB ps k = true then lvsL ps k ++ [(k : Int)] else lvsL ps k
theorem lvsL_mem {ps : List Int} : ∀ {k : Nat} {x : Int}, x ∈ lvsL ps k ↔ ∃ j : Nat, j < k ∧ x = j ∧ leafB ps j = true := by
  intro k
  induction k with
  | zero => intro x; simp [lvsL]
  | succ k ih =>
    intro x
    rw [lvsL]
    split
    · rename_i h
      rw [List.mem_append, ih]
      constructor
      · rintro (⟨j, h1, h2, h3⟩ | h1)
        · exact ⟨j, by omega, h2, h3⟩
        · exact ⟨k, by omega, by simpa using h1, h⟩
      · rintro ⟨j, h1, h2, h3⟩
        rcases Nat.lt_or_ge j k with h4 | h4
        · exact .inl ⟨j, h4, h2, h3⟩
        · obtain rfl : j = k := by omega
          exact .inr (by simp [h2])
    · rename_i h
      rw [ih]
      constructor
      · rintro ⟨j, h1, h2, h3⟩
        exact ⟨j, by omega, h2, h3⟩
      · rintro ⟨j, h1, h2, h3⟩
        rcases Nat.lt_or_ge j k with h4 | h4
        · exact ⟨j, h4, h2, h3⟩
        · obtain rfl : j = k := by omega
          exact absurd h3 h
theorem lvsL_len {ps : List Int} : ∀ k, (lvsL ps k).length ≤ k := by
  intro k
  induction k with
  | zero => exact Nat.le_refl _
  | succ k ih =>
    rw [lvsL]
    split
    · rw [List.length_append]; simp; exact ih
    · omega
theorem hasB_memG {xs : List Int} {v : Int} : hasB xs v = true ↔ v ∈ xs := by
  constructor
  · intro h
    apply Classical.byContradiction
    intro hn
    rw [hasB_no rfl (fun k hk e => hn (by rw [List.getElem?_eq_getElem hk, Option.getD_some] at e; exact e ▸ List.getElem_mem hk))] at h
    cases h
  · intro h
    obtain ⟨k, hk, e⟩ := List.getElem_of_mem h
    exact hasB_yes rfl hk (by rw [List.getElem?_eq_getElem hk, Option.getD_some]; exact e)
theorem lvsL_has {ps : List Int} {x : Int} : hasB (lvsL ps ps.length) x = atLeaf ps x := by
  rw [Bool.eq_iff_iff, hasB_memG, lvsL_mem]
  unfold atLeaf
  rw [Bool.and_eq_true]
  constructor
  · rintro ⟨j, h1, rfl, h3⟩
    exact ⟨inR_yes (by omega) (by omega), h3⟩
  · rintro ⟨h1, h2⟩
    have := inR_of h1
    exact ⟨x.toNat, by omega, by omega, by rwa [show ((x.toNat : Nat) : Int) = x by omega]⟩
end Go.Proofs.YtfanpbfmnckmnaaGreat
