/- Several small texts in one: GeoP, TblP. -/
import Derived.Test.YtfanpbfmnckmnaaGreatZh
import Derived.Test.YtfanpbfmnckmnaaGreatZf
import Derived.Test.YtfanpbfmnckmnaaGreatFewest
namespace Go.Proofs.YtfanpbfmnckmnaaGreat

section
open Go.RowKit

/-- The i-th parent. -/
def gP (ps : List Int) (i : Nat) : Int := ps[i]?.getD 0
def parOk (ps : List Int) (i : Nat) : Bool := decide (i = 0) || inR (gP ps i) 0 ((i : Int) - 1)
def geoB (ps : List Int) : Bool := inR ps.length 1 30 && (decide (gP ps 0 = -1) && allTo (parOk ps) ps.length)
structure GeoOk (ps : List Int) (n : Nat) : Prop where
  len : ps.length = n
  pos : 1 ≤ n
  most : n ≤ 30
  root : gP ps 0 = -1
  up : ∀ i, 0 < i → i < n → 0 ≤ gP ps i ∧ gP ps i ≤ (i : Int) - 1
theorem geoB_of {ps : List Int} (h : geoB ps = true) : GeoOk ps ps.length := by
  unfold geoB at h
  simp only [Bool.and_eq_true, decide_eq_true_eq] at h
  obtain ⟨h1, h2, h3⟩ := h
  have hr := inR_of h1
  refine ⟨rfl, by omega, by omega, h2, fun i h0 hi => ?_⟩
  have := allTo_of h3 i hi
  unfold parOk at this
  simp only [Bool.or_eq_true, decide_eq_true_eq] at this
  rcases this with h9 | h9
  · omega
  · exact inR_of h9
theorem geoB_1 {ps : List Int} (h : inR ps.length 1 30 = false) : geoB ps = false := by unfold geoB; rw [h]; rfl
theorem geoB_2 {ps : List Int} (h : ¬ gP ps 0 = -1) : geoB ps = false := by unfold geoB; rw [decide_eq_false h]; simp
theorem geoB_3 {ps : List Int} {i : Nat} (h : parOk ps i = false) (hi : i < ps.length) : geoB ps = false := by
  unfold geoB; rw [allTo_no hi h]; simp
theorem geoB_4 {ps : List Int} (h1 : inR ps.length 1 30 = true) (h2 : gP ps 0 = -1) (h3 : allTo (parOk ps) ps.length = true) : geoB ps = true := by
  unfold geoB; rw [h1, decide_eq_true h2, h3]; rfl
/-- The parent of i as an index. -/
def par (ps : List Int) (i : Nat) : Nat := (gP ps i).toNat
def depF (ps : List Int) : Nat → Nat → Nat
  | 0, _ => 0
  | f + 1, i => if i = 0 then 0 else depF ps f (par ps i) + 1
def dep (ps : List Int) (i : Nat) : Nat := depF ps i i
section
variable {ps : List Int} {n i : Nat}
theorem GeoOk.par_lt (h : GeoOk ps n) (h0 : 0 < i) (hi : i < n) : par ps i < i := by
  have := h.up i h0 hi
  unfold par
  omega
theorem GeoOk.par_eq (h : GeoOk ps n) (h0 : 0 < i) (hi : i < n) : gP ps i = (par ps i : Int) := by
  have := h.up i h0 hi
  unfold par
  omega
theorem depF_enough (h : GeoOk ps n) : ∀ (f i : Nat), i < n → i ≤ f → depF ps f i = depF ps i i := by
  intro f
  induction f using Nat.strongRecOn with
  | _ f ih =>
    intro i hi hf
    cases f with
    | zero => obtain rfl : i = 0 := by omega
              rfl
    | succ f =>
      cases i with
      | zero => simp [depF]
      | succ i =>
        have hp : par ps (i + 1) < i + 1 := h.par_lt (Nat.succ_pos i) hi
        rw [depF, if_neg (Nat.succ_ne_zero i), depF, if_neg (Nat.succ_ne_zero i), ih f (by omega) _ (by omega) (by omega)]
        rcases Nat.lt_or_ge i f with h9 | h9
        · rw [ih i (by omega) _ (by omega) (by omega)]
        · obtain rfl : i = f := by omega
          rw [ih i (by omega) _ (by omega) (by omega)]
theorem dep_zero : dep ps 0 = 0 := rfl
theorem dep_step (h : GeoOk ps n) (h0 : 0 < i) (hi : i < n) : dep ps i = dep ps (par ps i) + 1 := by
  obtain ⟨k, rfl⟩ : ∃ k, i = k + 1 := ⟨i - 1, by omega⟩
  unfold dep
  have hp := h.par_lt h0 hi
  rw [depF, if_neg (Nat.succ_ne_zero k), depF_enough h k _ (by omega) (by omega)]
theorem dep_le (h : GeoOk ps n) : ∀ i, i < n → dep ps i ≤ i := by
  intro i
  induction i using Nat.strongRecOn with
  | _ i ih =>
    intro hi
    rcases Nat.eq_zero_or_pos i with rfl | h0
    · exact Nat.le_refl _
    · have hp := h.par_lt h0 hi
      rw [dep_step h h0 hi]
      have := ih _ hp (by omega)
      omega
end
/-- The first k areas that lie at a level. -/
def lvl (ps : List Int) (v : Int) : Nat → List Int
  | 0 => []
  | k + 1 => if (dep ps k : Int) = v then lvl ps v k ++ [(k : Int)] else lvl ps v k
theorem lvl_yes {ps : List Int} {v : Int} {k : Nat} (h : (dep ps k : Int) = v) : lvl ps v (k + 1) = lvl ps v k ++ [(k : Int)] := by rw [lvl, if_pos h]
theorem lvl_no {ps : List Int} {v : Int} {k : Nat} (h : ¬ (dep ps k : Int) = v) : lvl ps v (k + 1) = lvl ps v k := by rw [lvl, if_neg h]
theorem lvl_len {ps : List Int} {v : Int} : ∀ k, (lvl ps v k).length ≤ k := by
  intro k
  induction k with
  | zero => exact Nat.le_refl _
  | succ k ih =>
    by_cases h : (dep ps k : Int) = v
    · rw [lvl_yes h, List.length_append]; simp; exact ih
    · rw [lvl_no h]; omega
theorem lvl_mem {ps : List Int} {v : Int} : ∀ {k : Nat} {x : Int}, x ∈ lvl ps v k ↔ ∃ j : Nat, j < k ∧ x = j ∧ (dep ps j : Int) = v := by
  intro k
  induction k with
  | zero => intro x; simp [lvl]
  | succ k ih =>
    intro x
    by_cases h : (dep ps k : Int) = v
    · rw [lvl_yes h, List.mem_append, ih]
      constructor
      · rintro (⟨j, h1, h2, h3⟩ | h1)
        · exact ⟨j, by omega, h2, h3⟩
        · exact ⟨k, by omega, by simpa using h1, h⟩
      · rintro ⟨j, h1, h2, h3⟩
        rcases Nat.lt_or_ge j k with h4 | h4
        · exact .inl ⟨j, h4, h2, h3⟩
        · obtain rfl : j = k := by omega
          exact .inr (by simp [h2])
    · rw [lvl_no h, ih]
      constructor
      · rintro ⟨j, h1, h2, h3⟩
        exact ⟨j, by omega, h2, h3⟩
      · rintro ⟨j, h1, h2, h3⟩
        rcases Nat.lt_or_ge j k with h4 | h4
        · exact ⟨j, h4, h2, h3⟩
        · obtain rfl : j = k := by omega
          exact absurd h3 h
theorem lvl_rise {ps : List Int} {v : Int} : ∀ k, (lvl ps v k).Pairwise (· < ·) := by
  intro k
  induction k with
  | zero => exact List.Pairwise.nil
  | succ k ih =>
    by_cases h : (dep ps k : Int) = v
    · rw [lvl_yes h]
      refine List.pairwise_append.2 ⟨ih, by simp, fun a ha b hb => ?_⟩
      obtain ⟨j, h1, h2, _⟩ := lvl_mem.1 ha
      have : b = k := by simpa using hb
      omega
    · rw [lvl_no h]; exact ih
/-- t steps towards the root. -/
def upN (ps : List Int) : Nat → Nat → Nat
  | i, 0 => i
  | i, t + 1 => upN ps (par ps i) t
/-- The ancestor at a level, or -1. -/
def anc (ps : List Int) (i : Nat) (v : Int) : Int := if v < 0 ∨ (dep ps i : Int) < v then -1 else (upN ps i (dep ps i - v.toNat) : Nat)
section
variable {ps : List Int} {n : Nat}
theorem anc_no {i : Nat} {v : Int} (h : v < 0 ∨ (dep ps i : Int) < v) : anc ps i v = -1 := by unfold anc; rw [if_pos h]
theorem anc_yes {i : Nat} {v : Nat} (h : v ≤ dep ps i) : anc ps i (v : Int) = (upN ps i (dep ps i - v) : Nat) := by
  unfold anc; rw [if_neg (by omega), Int.toNat_natCast]
theorem upN_dep (h : GeoOk ps n) : ∀ (t i : Nat), i < n → t ≤ dep ps i → upN ps i t < n ∧ dep ps (upN ps i t) = dep ps i - t := by
  intro t
  induction t with
  | zero => intro i hi _; exact ⟨hi, rfl⟩
  | succ t ih =>
    intro i hi ht
    have h0 : 0 < i := by
      rcases Nat.eq_zero_or_pos i with rfl | h0
      · rw [dep_zero] at ht; omega
      · exact h0
    have hp := h.par_lt h0 hi
    have hd := dep_step h h0 hi
    obtain ⟨h1, h2⟩ := ih (par ps i) (by omega) (by omega)
    exact ⟨h1, by rw [upN, h2]; omega⟩
theorem anc_mem (h : GeoOk ps n) {i : Nat} {v : Int} (hi : i < n) (h1 : 0 ≤ anc ps i v) : anc ps i v ∈ lvl ps v n := by
  unfold anc at h1 ⊢
  split
  · rename_i h9
    rw [if_pos h9] at h1
    omega
  · rename_i h9
    obtain ⟨h2, h3⟩ := upN_dep h (dep ps i - v.toNat) i hi (by omega)
    exact lvl_mem.2 ⟨_, h2, rfl, by omega⟩
end
/-- The index of a number in a list, or the list's length. -/
def posL (xs : List Int) (a : Int) : Nat := xs.findIdx (fun x => x == a)
/-- Area i has no children. -/
def leafB (ps : List Int) (i : Int) : Bool := !hasB ps i
def atLeaf (ps : List Int) (i : Int) : Bool := inR i 0 ((ps.length : Int) - 1) && leafB ps i
/-- The first k leaves. -/
def lvsL (ps : List Int) : Nat → List Int
  | 0 => []
  | k + 1 => if leafB ps k = true then lvsL ps k ++ [(k : Int)] else lvsL ps k
theorem lvsL_mem {ps : List Int} : ∀ {k : Nat} {x : Int}, x ∈ lvsL ps k ↔ ∃ j : Nat, j < k ∧ x = j ∧ leafB ps j = true := by
  intro k
  induction k with
  | zero => intro x; simp [lvsL]
  | succ k ih =>
    intro x
    rw [lvsL]
    split
    · rename_i h
      rw [List.mem_append, ih]
      constructor
      · rintro (⟨j, h1, h2, h3⟩ | h1)
        · exact ⟨j, by omega, h2, h3⟩
        · exact ⟨k, by omega, by simpa using h1, h⟩
      · rintro ⟨j, h1, h2, h3⟩
        rcases Nat.lt_or_ge j k with h4 | h4
        · exact .inl ⟨j, h4, h2, h3⟩
        · obtain rfl : j = k := by omega
          exact .inr (by simp [h2])
    · rename_i h
      rw [ih]
      constructor
      · rintro ⟨j, h1, h2, h3⟩
        exact ⟨j, by omega, h2, h3⟩
      · rintro ⟨j, h1, h2, h3⟩
        rcases Nat.lt_or_ge j k with h4 | h4
        · exact ⟨j, h4, h2, h3⟩
        · obtain rfl : j = k := by omega
          exact absurd h3 h
theorem lvsL_len {ps : List Int} : ∀ k, (lvsL ps k).length ≤ k := by
  intro k
  induction k with
  | zero => exact Nat.le_refl _
  | succ k ih =>
    rw [lvsL]
    split
    · rw [List.length_append]; simp; exact ih
    · omega
theorem hasB_memG {xs : List Int} {v : Int} : hasB xs v = true ↔ v ∈ xs := by
  constructor
  · intro h
    apply Classical.byContradiction
    intro hn
    rw [hasB_no rfl (fun k hk e => hn (by rw [List.getElem?_eq_getElem hk, Option.getD_some] at e; exact e ▸ List.getElem_mem hk))] at h
    cases h
  · intro h
    obtain ⟨k, hk, e⟩ := List.getElem_of_mem h
    exact hasB_yes rfl hk (by rw [List.getElem?_eq_getElem hk, Option.getD_some]; exact e)
theorem lvsL_has {ps : List Int} {x : Int} : hasB (lvsL ps ps.length) x = atLeaf ps x := by
  rw [Bool.eq_iff_iff, hasB_memG, lvsL_mem]
  unfold atLeaf
  rw [Bool.and_eq_true]
  constructor
  · rintro ⟨j, h1, rfl, h3⟩
    exact ⟨inR_yes (by omega) (by omega), h3⟩
  · rintro ⟨h1, h2⟩
    have := inR_of h1
    exact ⟨x.toNat, by omega, by omega, by rwa [show ((x.toNat : Nat) : Int) = x by omega]⟩
end

section
open Go.RowKit

/-- A table: level, variables, conditions, the summed variable. -/
structure TabD where
  lv : Int
  vars : List Int
  wh : List Int
  sum : Int
def tab0 : TabD := ⟨0, [], [], 0⟩
def tX (ts : List TabD) (j : Nat) : TabD := ts[j]?.getD tab0
def whOk (vs : List (ByteArray × Int)) (wh : List Int) (i : Nat) : Bool := inR (wh[i]?.getD 0) 0 (2 ^ (vL vs i).toNat - 1)
def whB (vs : List (ByteArray × Int)) (wh : List Int) : Bool := decide (wh.length = vs.length) && allTo (whOk vs wh) vs.length
theorem whB_1 {vs : List (ByteArray × Int)} {wh : List Int} (h : ¬ wh.length = vs.length) : whB vs wh = false := by unfold whB; rw [decide_eq_false h]; rfl
theorem whB_2 {vs : List (ByteArray × Int)} {wh : List Int} {i : Nat} (hi : i < vs.length) (h : whOk vs wh i = false) : whB vs wh = false := by unfold whB; rw [allTo_no hi h]; simp
theorem whB_3 {vs : List (ByteArray × Int)} {wh : List Int} (h : wh.length = vs.length) (h2 : allTo (whOk vs wh) vs.length = true) : whB vs wh = true := by unfold whB; rw [decide_eq_true h, h2]; rfl
theorem whB_of {vs : List (ByteArray × Int)} {wh : List Int} (h : whB vs wh = true) : wh.length = vs.length ∧ ∀ i, i < vs.length → 0 ≤ wh[i]?.getD 0 ∧ wh[i]?.getD 0 ≤ 2 ^ (vL vs i).toNat - 1 := by
  unfold whB at h
  simp only [Bool.and_eq_true, decide_eq_true_eq] at h
  exact ⟨h.1, fun i hi => inR_of (allTo_of h.2 i hi)⟩
theorem pow2_bd {x : Int} (h0 : 2 ≤ x) (h1 : x ≤ 8) : (4 : Int) ≤ 2 ^ x.toNat ∧ (2 : Int) ^ x.toNat ≤ 256 := by
  have hx : x = 2 ∨ x = 3 ∨ x = 4 ∨ x = 5 ∨ x = 6 ∨ x = 7 ∨ x = 8 := by omega
  rcases hx with rfl | rfl | rfl | rfl | rfl | rfl | rfl <;> decide
/-- How many cells a table has. -/
def cntV (ps : List Int) (vs : List (ByteArray × Int)) (t : TabD) : Int := ((lvl ps t.lv ps.length).length : Int) * prodN vs t.vars t.vars.length
def tabB (ps : List Int) (vs : List (ByteArray × Int)) (t : TabD) : Bool :=
  risB t.vars vs.length && (whB vs t.wh && (inR t.sum (-1) ((vs.length : Int) - 1) && (decide (0 < (lvl ps t.lv ps.length).length) && decide (cntV ps vs t ≤ 600))))
/-- Geography, schema and table fit. -/
structure TabOk (ps : List Int) (vs : List (ByteArray × Int)) (t : TabD) (g n : Nat) : Prop where
  geo : GeoOk ps g
  part : PartOk vs t.vars n
  wh : whB vs t.wh = true
  sum : -1 ≤ t.sum ∧ t.sum ≤ (n : Int) - 1
  some : 0 < (lvl ps t.lv g).length
  most : ((lvl ps t.lv g).length : Int) * prodN vs t.vars t.vars.length ≤ 600
theorem tabB_ok {ps : List Int} {vs : List (ByteArray × Int)} {t : TabD} (hg : geoB ps = true) (hs : schB vs = true) (h : tabB ps vs t = true) : TabOk ps vs t ps.length vs.length := by
  unfold tabB cntV at h
  simp only [Bool.and_eq_true, decide_eq_true_eq] at h
  obtain ⟨h1, h2, h3, h4, h5⟩ := h
  exact ⟨geoB_of hg, ⟨rfl, hs, h1⟩, h2, inR_of h3, h4, h5⟩
theorem tabB_1 {ps : List Int} {vs : List (ByteArray × Int)} {t : TabD} (h : risB t.vars vs.length = false) : tabB ps vs t = false := by unfold tabB; rw [h]; rfl
theorem tabB_2 {ps : List Int} {vs : List (ByteArray × Int)} {t : TabD} (h : whB vs t.wh = false) : tabB ps vs t = false := by unfold tabB; rw [h]; simp
theorem tabB_3 {ps : List Int} {vs : List (ByteArray × Int)} {t : TabD} (h : inR t.sum (-1) ((vs.length : Int) - 1) = false) : tabB ps vs t = false := by unfold tabB; rw [h]; simp
theorem tabB_4 {ps : List Int} {vs : List (ByteArray × Int)} {t : TabD} (h : ¬ 0 < (lvl ps t.lv ps.length).length) : tabB ps vs t = false := by unfold tabB; rw [decide_eq_false h]; simp
theorem tabB_5 {ps : List Int} {vs : List (ByteArray × Int)} {t : TabD} (h : ¬ cntV ps vs t ≤ 600) : tabB ps vs t = false := by unfold tabB; rw [decide_eq_false h]; simp
theorem tabB_6 {ps : List Int} {vs : List (ByteArray × Int)} {t : TabD} (h1 : risB t.vars vs.length = true) (h2 : whB vs t.wh = true) (h3 : inR t.sum (-1) ((vs.length : Int) - 1) = true) (h4 : 0 < (lvl ps t.lv ps.length).length) (h5 : cntV ps vs t ≤ 600) : tabB ps vs t = true := by
  unfold tabB; rw [h1, h2, h3, decide_eq_true h4, decide_eq_true h5]; rfl
section
variable {ps : List Int} {vs : List (ByteArray × Int)} {t : TabD} {g n : Nat}
theorem TabOk.lvl_le (h : TabOk ps vs t g n) : (lvl ps t.lv g).length ≤ 30 := Nat.le_trans (lvl_len g) h.geo.most
theorem TabOk.cnt (h : TabOk ps vs t g n) : 1 ≤ ((lvl ps t.lv g).length : Int) * prodN vs t.vars t.vars.length := by
  have h1 := h.part.prod
  have h2 := h.some
  have := Int.mul_le_mul (show (1 : Int) ≤ ((lvl ps t.lv g).length : Int) by omega) h1.1 (by omega) (by omega)
  omega
end
/-- A record's values meet the conditions. -/
def meetAt (wh xs : List Int) (i : Nat) : Bool := (wh[i]?.getD 0 == 0) || memP (wh[i]?.getD 0) (xs[i]?.getD 0).toNat
def meetB (wh xs : List Int) : Bool := allTo (meetAt wh xs) wh.length
theorem posL_lt {xs : List Int} {a : Int} (h : a ∈ xs) : posL xs a < xs.length := by
  unfold posL
  exact List.findIdx_lt_length_of_exists ⟨a, h, by simp⟩
theorem posL_get {xs : List Int} {a : Int} (h : posL xs a < xs.length) : xs[posL xs a]'h = a := by
  have h2 : ((xs[posL xs a]'h) == a) = true := List.findIdx_getElem (xs := xs) (p := fun x => x == a) (w := h)
  exact eq_of_beq h2
theorem posL_not {xs : List Int} {a : Int} {j : Nat} (h : j < posL xs a) (hj : j < xs.length) : ¬ xs[j]'hj = a := by
  have := List.not_of_lt_findIdx (xs := xs) (p := fun x => x == a) h
  simpa using this
/-- The cell of a record, or -1. -/
def cellI (ps : List Int) (vs : List (ByteArray × Int)) (t : TabD) (x : Int) (xs : List Int) : Int :=
  if anc ps x.toNat t.lv < 0 ∨ meetB t.wh xs = false then -1 else (posL (lvl ps t.lv ps.length) (anc ps x.toNat t.lv) : Int) * prodN vs t.vars t.vars.length + keyV vs xs t.vars
def amtV (t : TabD) (xs : List Int) : Int := if t.sum < 0 then 1 else xs[t.sum.toNat]?.getD 0
/-- The amount beside the cell. -/
def cellA (ps : List Int) (t : TabD) (x : Int) (xs : List Int) : Int := if anc ps x.toNat t.lv < 0 ∨ meetB t.wh xs = false then 0 else amtV t xs
theorem cellI_no {ps : List Int} {vs : List (ByteArray × Int)} {t : TabD} {x : Int} {xs : List Int} (h : anc ps x.toNat t.lv < 0 ∨ meetB t.wh xs = false) : cellI ps vs t x xs = -1 ∧ cellA ps t x xs = 0 := by unfold cellI cellA; rw [if_pos h, if_pos h]; exact ⟨rfl, rfl⟩
theorem cellI_yes {ps : List Int} {vs : List (ByteArray × Int)} {t : TabD} {x : Int} {xs : List Int} (h1 : 0 ≤ anc ps x.toNat t.lv) (h2 : meetB t.wh xs = true) :
    cellI ps vs t x xs = (posL (lvl ps t.lv ps.length) (anc ps x.toNat t.lv) : Int) * prodN vs t.vars t.vars.length + keyV vs xs t.vars ∧ cellA ps t x xs = amtV t xs := by
  unfold cellI cellA
  rw [if_neg (by rintro (h | h); omega; rw [h2] at h; cases h), if_neg (by rintro (h | h); omega; rw [h2] at h; cases h)]
  exact ⟨rfl, rfl⟩
section
variable {ps : List Int} {vs : List (ByteArray × Int)} {t : TabD} {g n : Nat} {xs : List Int} {x : Int}
theorem TabOk.key (h : TabOk ps vs t g n) (hv : valsB vs xs = true) : KeyOk vs xs t.vars n := ⟨h.part.len, h.part.s, hv, h.part.r⟩
theorem TabOk.cell (h : TabOk ps vs t g n) (hv : valsB vs xs = true) (hx : 0 ≤ x) (hxg : x < g) : -1 ≤ cellI ps vs t x xs ∧ cellI ps vs t x xs < ((lvl ps t.lv g).length : Int) * prodN vs t.vars t.vars.length := by
  have hc := h.cnt
  have hlen := h.geo.len
  unfold cellI
  split
  · omega
  · rename_i h9
    have h0 : 0 ≤ anc ps x.toNat t.lv := by omega
    have hm := anc_mem h.geo (i := x.toNat) (by omega) h0
    have hp := posL_lt hm
    have hk := h.key hv
    have hk1 := hk.lt_prod t.vars.length (Nat.le_refl _)
    have hk2 := (hk.bd t.vars.length (Nat.le_refl _)).1
    have hpr := h.part.prod
    rw [hlen]
    generalize posL (lvl ps t.lv g) (anc ps x.toNat t.lv) = k at *
    unfold keyV
    generalize keyN vs xs t.vars t.vars.length = y at *
    generalize prodN vs t.vars t.vars.length = P at *
    have e1 : ((k : Int) + 1) * P ≤ ((lvl ps t.lv g).length : Int) * P := Int.mul_le_mul_of_nonneg_right (by omega) (by omega)
    have e2 : 0 ≤ (k : Int) * P := Int.mul_nonneg (by omega) (by omega)
    rw [Int.add_mul, Int.one_mul] at e1
    omega
theorem TabOk.amt (h : TabOk ps vs t g n) (hv : valsB vs xs = true) : 0 ≤ amtV t xs ∧ amtV t xs ≤ 7 := by
  unfold amtV
  split
  · omega
  · have hs := h.sum
    have h1 := h.part.len
    have h2 := (valsB_of hv).2 t.sum.toNat (by omega)
    have h3 := (schB_of h.part.s).2 t.sum.toNat (by omega)
    omega
end
/-- The cells behind the first k records. -/
def tblN (ps : List Int) (vs : List (ByteArray × Int)) (t : TabD) (rs : List RecD) : Nat → List Int
  | 0 => List.replicate (cntV ps vs t).toNat 0
  | k + 1 => if 0 ≤ cellI ps vs t (rA rs k) (rV rs k) then (tblN ps vs t rs k).set (cellI ps vs t (rA rs k) (rV rs k)).toNat ((tblN ps vs t rs k)[(cellI ps vs t (rA rs k) (rV rs k)).toNat]?.getD 0 + amtV t (rV rs k)) else tblN ps vs t rs k
def tblV (ps : List Int) (vs : List (ByteArray × Int)) (t : TabD) (rs : List RecD) : List Int := tblN ps vs t rs rs.length
theorem tblN_yes {ps : List Int} {vs : List (ByteArray × Int)} {t : TabD} {rs : List RecD} {k : Nat} (h : 0 ≤ cellI ps vs t (rA rs k) (rV rs k)) : tblN ps vs t rs (k + 1) = (tblN ps vs t rs k).set (cellI ps vs t (rA rs k) (rV rs k)).toNat ((tblN ps vs t rs k)[(cellI ps vs t (rA rs k) (rV rs k)).toNat]?.getD 0 + amtV t (rV rs k)) := by rw [tblN, if_pos h]
theorem tblN_no {ps : List Int} {vs : List (ByteArray × Int)} {t : TabD} {rs : List RecD} {k : Nat} (h : ¬ 0 ≤ cellI ps vs t (rA rs k) (rV rs k)) : tblN ps vs t rs (k + 1) = tblN ps vs t rs k := by rw [tblN, if_neg h]
theorem tblN_len {ps : List Int} {vs : List (ByteArray × Int)} {t : TabD} {rs : List RecD} (k : Nat) : (tblN ps vs t rs k).length = (cntV ps vs t).toNat := by
  induction k with
  | zero => simp [tblN]
  | succ k ih =>
    rw [tblN]
    split
    · rw [List.length_set, ih]
    · exact ih
theorem set_getD {xs : List Int} {k i : Nat} {v : Int} : (xs.set k v)[i]?.getD 0 = if k = i ∧ k < xs.length then v else xs[i]?.getD 0 := by
  rw [List.getElem?_set]
  by_cases h : k = i
  · subst h
    by_cases h2 : k < xs.length
    · simp [h2]
    · simp [h2]
  · simp [h]
/-- Cells stay small. -/
theorem tblN_bd {ps : List Int} {vs : List (ByteArray × Int)} {t : TabD} {rs : List RecD} {g n : Nat} (h : TabOk ps vs t g n) (hd : dataB vs rs = true) : ∀ k : Nat, k ≤ rs.length → ∀ i : Nat, 0 ≤ (tblN ps vs t rs k)[i]?.getD 0 ∧ (tblN ps vs t rs k)[i]?.getD 0 ≤ 7 * (k : Int) := by
  intro k
  induction k with
  | zero =>
    intro _ i
    rw [tblN, List.getElem?_replicate]
    split <;> simp
  | succ k ih =>
    intro hk i
    have h1 := ih (by omega) i
    have h2 := h.amt (recB_vals (show recB vs (rA rs k) (rH rs k) (rV rs k) = true from (dataB_of hd).2 k (by omega)))
    rw [tblN]
    split
    · rw [set_getD]
      split
      · rename_i h9
        have h3 := ih (by omega) (cellI ps vs t (rA rs k) (rV rs k)).toNat
        omega
      · omega
    · omega
end
end Go.Proofs.YtfanpbfmnckmnaaGreat
