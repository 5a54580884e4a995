/- Tables, their cells, servers: plain laws. -/
import Derived.Test.YtfanpbfmnckmnaaGreatGeoP
import Derived.Test.YtfanpbfmnckmnaaGreatZf
import Derived.Test.YtfanpbfmnckmnaaGreatFewest
namespace Go.Proofs.YtfanpbfmnckmnaaGreat
open Go.RowKit

/-- A table: level, variables, conditions, the summed variable. -/
structure TabD where
  lv : Int
  vars : List Int
  wh : List Int
  sum : Int
def tab0 : TabD := ⟨0, [], [], 0⟩
def tX (ts : List TabD) (j : Nat) : TabD := ts[j]?.getD tab0
def whOk (vs : List (ByteArray × Int)) (wh : List Int) (i : Nat) : Bool := inR (wh[i]?.getD 0) 0 (2 ^ (vL vs i).toNat - 1)
def whB (vs : List (ByteArray × Int)) (wh : List Int) : Bool := decide (wh.length = vs.length) && allTo (whOk vs wh) vs.length
theorem whB_1 {vs : List (ByteArray × Int)} {wh : List Int} (h : ¬ wh.length = vs.length) : whB vs wh = false := by unfold whB; rw [decide_eq_false h]; rfl
theorem whB_2 {vs : List (ByteArray × Int)} {wh : List Int} {i : Nat} (hi : i < vs.length) (h : whOk vs wh i = false) : whB vs wh = false := by unfold whB; rw [allTo_no hi h]; simp
theorem whB_3 {vs : List (ByteArray × Int)} {wh : List Int} (h : wh.length = vs.length) (h2 : allTo (whOk vs wh) vs.length = true) : whB vs wh = true := by unfold whB; rw [decide_eq_true h, h2]; rfl
theorem whB_of {vs : List (ByteArray × Int)} {wh : List Int} (h : whB vs wh = true) : wh.length = vs.length ∧ ∀ i, i < vs.length → 0 ≤ wh[i]?.getD 0 ∧ wh[i]?.getD 0 ≤ 2 ^ (vL vs i).toNat - 1 := by
  unfold whB at h
  simp only [Bool.and_eq_true, decide_eq_true_eq] at h
  exact ⟨h.1, fun i hi => inR_of (allTo_of h.2 i hi)⟩
theorem pow2_bd {x : Int} (h0 : 2 ≤ x) (h1 : x ≤ 8) : (4 : Int) ≤ 2 ^ x.toNat ∧ (2 : Int) ^ x.toNat ≤ 256 := by
  have hx : x = 2 ∨ x = 3 ∨ x = 4 ∨ x = 5 ∨ x = 6 ∨ x = 7 ∨ x = 8 := by omega
  rcases hx with rfl | rfl | rfl | rfl | rfl | rfl | rfl <;> decide
/-- How many cells a table has. -/
def cntV (ps : List Int) (vs : List (ByteArray × Int)) (t : TabD) : Int := ((lvl ps t.lv ps.length).length : Int) * prodN vs t.vars t.vars.length
def tabB (ps : List Int) (vs : List (ByteArray × Int)) (t : TabD) : Bool :=
  risB t.vars vs.length && (whB vs t.wh && (inR t.sum (-1) ((vs.length : Int) - 1) && (decide (0 < (lvl ps t.lv ps.length).length) && decide (cntV ps vs t ≤ 600))))
/-- Geography, schema and table fit. -/
structure TabOk (ps : List Int) (vs : List (ByteArray × Int)) (t : TabD) (g n : Nat) : Prop where
  geo : GeoOk ps g
  part : PartOk vs t.vars n
  wh : whB vs t.wh = true
  sum : -1 ≤ t.sum ∧ t.sum ≤ (n : Int) - 1
  some : 0 < (lvl ps t.lv g).length
  most : ((lvl ps t.lv g).length : Int) * prodN vs t.vars t.vars.length ≤ 600
theorem tabB_ok {ps : List Int} {vs : List (ByteArray × Int)} {t : TabD} (hg : geoB ps = true) (hs : schB vs = true) (h : tabB ps vs t = true) : TabOk ps vs t ps.length vs.length := by
  unfold tabB cntV at h
  simp only [Bool.and_eq_true, decide_eq_true_eq] at h
  obtain ⟨h1, h2, h3, h4, h5⟩ := h
  exact ⟨geoB_of hg, ⟨rfl, hs, h1⟩, h2, inR_of h3, h4, h5⟩
theorem tabB_1 {ps : List Int} {vs : List (ByteArray × Int)} {t : TabD} (h : risB t.vars vs.length = false) : tabB ps vs t = false := by unfold tabB; rw [h]; rfl
theorem tabB_2 {ps : List Int} {vs : List (ByteArray × Int)} {t : TabD} (h : whB vs t.wh = false) : tabB ps vs t = false := by unfold tabB; rw [h]; simp
theorem tabB_3 {ps : List Int} {vs : List (ByteArray × Int)} {t : TabD} (h : inR t.sum (-1) ((vs.length : Int) - 1) = false) : tabB ps vs t = false := by unfold tabB; rw [h]; simp
theorem tabB_4 {ps : List Int} {vs : List (ByteArray × Int)} {t : TabD} (h : ¬ 0 < (lvl ps t.lv ps.length).length) : tabB ps vs t = false := by unfold tabB; rw [decide_eq_false h]; simp
theorem tabB_5 {ps : List Int} {vs : List (ByteArray × Int)} {t : TabD} (h : ¬ cntV ps vs t ≤ 600) : tabB ps vs t = false := by unfold tabB; rw [decide_eq_false h]; simp
theorem tabB_6 {ps : List Int} {vs : List (ByteArray × Int)} {t : TabD} (h1 : risB t.vars vs.length = true) (h2 : whB vs t.wh = true) (h3 : inR t.sum (-1) ((vs.length : Int) - 1) = true) (h4 : 0 < (lvl ps t.lv ps.length).length) (h5 : cntV ps vs t ≤ 600) : tabB ps vs t = true := by
  unfold tabB; rw [h1, h2, h3, decide_eq_true h4, decide_eq_true h5]; rfl
section
variable {ps : List Int} {vs : List (ByteArray × Int)} {t : TabD} {g n : Nat}
theorem TabOk.lvl_le (h : TabOk ps vs t g n) : (lvl ps t.lv g).length ≤ 30 := Nat.le_trans (lvl_len g) h.geo.most
theorem TabOk.cnt (h : TabOk ps vs t g n) : 1 ≤ ((lvl ps t.lv g).length : Int) * prodN vs t.vars t.vars.length := by
  have h1 := h.part.prod
  have h2 := h.some
  have := Int.mul_le_mul (show (1 : Int) ≤ ((lvl ps t.lv g).length : Int) by omega) h1.1 (by omega) (by omega)
  omega
end
/-- A record's values meet the conditions. -/
def meetAt (wh xs : List Int) (i : Nat) : Bool := (wh[i]?.getD 0 == 0) || memP (wh[i]?.getD 0) (xs[i]?.getD 0).toNat
def meetB (wh xs : List Int) : Bool := allTo (meetAt wh xs) wh.length
theorem posL_lt {xs : List Int} {a : Int} (h : a ∈ xs) : posL xs a < xs.length := by
  unfold posL
  exact List.findIdx_lt_length_of_exists ⟨a, h, by simp⟩
theorem posL_get {xs : List Int} {a : Int} (h : posL xs a < xs.length) : xs[posL xs a]'h = a := by
  have h2 : ((xs[posL xs a]'h) == a) = true := List.findIdx_getElem (xs := xs) (p := fun x => x == a) (w := h)
  exact eq_of_beq h2
theorem posL_not {xs : List Int} {a : Int} {j : Nat} (h : j < posL xs a) (hj : j < xs.length) : ¬ xs[j]'hj = a := by
  have := List.not_of_lt_findIdx (xs := xs) (p := fun x => x == a) h
  simpa using this
/-- In a rising list the place of a number is the only one that holds it. -/
theorem posL_eq {xs : List Int} {a : Int} {k : Nat} (hp : xs.Pairwise (· < ·)) (hk : k < xs.length) (h : xs[k]'hk = a) : posL xs a = k := by
  have hm : a ∈ xs := h ▸ List.getElem_mem hk
  have hl := posL_lt hm
  have hg := posL_get hl
  rcases Nat.lt_trichotomy (posL xs a) k with h1 | h1 | h1
  · have := List.pairwise_iff_getElem.1 hp _ _ hl hk h1
    omega
  · exact h1
  · have := List.pairwise_iff_getElem.1 hp _ _ hk hl h1
    omega
/-- The cell of a record, or -1. -/
def cellI (ps : List Int) (vs : List (ByteArray × Int)) (t : TabD) (x : Int) (xs : List Int) : Int :=
  if anc ps x.toNat t.lv < 0 ∨ meetB t.wh xs = false then -1 else (posL (lvl ps t.lv ps.length) (anc ps x.toNat t.lv) : Int) * prodN vs t.vars t.vars.length + keyV vs xs t.vars
def amtV (t : TabD) (xs : List Int) : Int := if t.sum < 0 then 1 else xs[t.sum.toNat]?.getD 0
/-- The amount beside the cell. -/
def cellA (ps : List Int) (t : TabD) (x : Int) (xs : List Int) : Int := if anc ps x.toNat t.lv < 0 ∨ meetB t.wh xs = false then 0 else amtV t xs
theorem cellI_no {ps : List Int} {vs : List (ByteArray × Int)} {t : TabD} {x : Int} {xs : List Int} (h : anc ps x.toNat t.lv < 0 ∨ meetB t.wh xs = false) : cellI ps vs t x xs = -1 ∧ cellA ps t x xs = 0 := by unfold cellI cellA; rw [if_pos h, if_pos h]; exact ⟨rfl, rfl⟩
theorem cellI_yes {ps : List Int} {vs : List (ByteArray × Int)} {t : TabD} {x : Int} {xs : List Int} (h1 : 0 ≤ anc ps x.toNat t.lv) (h2 : meetB t.wh xs = true) :
    cellI ps vs t x xs = (posL (lvl ps t.lv ps.length) (anc ps x.toNat t.lv) : Int) * prodN vs t.vars t.vars.length + keyV vs xs t.vars ∧ cellA ps t x xs = amtV t xs := by
  unfold cellI cellA
  rw [if_neg (by rintro (h | h); omega; rw [h2] at h; cases h), if_neg (by rintro (h | h); omega; rw [h2] at h; cases h)]
  exact ⟨rfl, rfl⟩
section
variable {ps : List Int} {vs : List (ByteArray × Int)} {t : TabD} {g n : Nat} {xs : List Int} {x : Int}
theorem TabOk.key (h : TabOk ps vs t g n) (hv : valsB vs xs = true) : KeyOk vs xs t.vars n := ⟨h.part.len, h.part.s, hv, h.part.r⟩
theorem TabOk.cell (h : TabOk ps vs t g n) (hv : valsB vs xs = true) (hx : 0 ≤ x) (hxg : x < g) : -1 ≤ cellI ps vs t x xs ∧ cellI ps vs t x xs < ((lvl ps t.lv g).length : Int) * prodN vs t.vars t.vars.length := by
  have hc := h.cnt
  have hlen := h.geo.len
  unfold cellI
  split
  · omega
  · rename_i h9
    have h0 : 0 ≤ anc ps x.toNat t.lv := by omega
    have hm := anc_mem h.geo (i := x.toNat) (by omega) h0
    have hp := posL_lt hm
    have hk := h.key hv
    have hk1 := hk.lt_prod t.vars.length (Nat.le_refl _)
    have hk2 := (hk.bd t.vars.length (Nat.le_refl _)).1
    have hpr := h.part.prod
    rw [hlen]
    generalize posL (lvl ps t.lv g) (anc ps x.toNat t.lv) = k at *
    unfold keyV
    generalize keyN vs xs t.vars t.vars.length = y at *
    generalize prodN vs t.vars t.vars.length = P at *
    have e1 : ((k : Int) + 1) * P ≤ ((lvl ps t.lv g).length : Int) * P := Int.mul_le_mul_of_nonneg_right (by omega) (by omega)
    have e2 : 0 ≤ (k : Int) * P := Int.mul_nonneg (by omega) (by omega)
    rw [Int.add_mul, Int.one_mul] at e1
    omega
theorem TabOk.amt (h : TabOk ps vs t g n) (hv : valsB vs xs = true) : 0 ≤ amtV t xs ∧ amtV t xs ≤ 7 := by
  unfold amtV
  split
  · omega
  · have hs := h.sum
    have h1 := h.part.len
    have h2 := (valsB_of hv).2 t.sum.toNat (by omega)
    have h3 := (schB_of h.part.s).2 t.sum.toNat (by omega)
    omega
end
/-- The cells behind the first k records. -/
def tblN (ps : List Int) (vs : List (ByteArray × Int)) (t : TabD) (rs : List RecD) : Nat → List Int
  | 0 => List.replicate (cntV ps vs t).toNat 0
  | k + 1 => if 0 ≤ cellI ps vs t (rA rs k) (rV rs k) then (tblN ps vs t rs k).set (cellI ps vs t (rA rs k) (rV rs k)).toNat ((tblN ps vs t rs k)[(cellI ps vs t (rA rs k) (rV rs k)).toNat]?.getD 0 + amtV t (rV rs k)) else tblN ps vs t rs k
def tblV (ps : List Int) (vs : List (ByteArray × Int)) (t : TabD) (rs : List RecD) : List Int := tblN ps vs t rs rs.length
theorem tblN_yes {ps : List Int} {vs : List (ByteArray × Int)} {t : TabD} {rs : List RecD} {k : Nat} (h : 0 ≤ cellI ps vs t (rA rs k) (rV rs k)) : tblN ps vs t rs (k + 1) = (tblN ps vs t rs k).set (cellI ps vs t (rA rs k) (rV rs k)).toNat ((tblN ps vs t rs k)[(cellI ps vs t (rA rs k) (rV rs k)).toNat]?.getD 0 + amtV t (rV rs k)) := by rw [tblN, if_pos h]
theorem tblN_no {ps : List Int} {vs : List (ByteArray × Int)} {t : TabD} {rs : List RecD} {k : Nat} (h : ¬ 0 ≤ cellI ps vs t (rA rs k) (rV rs k)) : tblN ps vs t rs (k + 1) = tblN ps vs t rs k := by rw [tblN, if_neg h]
theorem tblN_len {ps : List Int} {vs : List (ByteArray × Int)} {t : TabD} {rs : List RecD} (k : Nat) : (tblN ps vs t rs k).length = (cntV ps vs t).toNat := by
  induction k with
  | zero => simp [tblN]
  | succ k ih =>
    rw [tblN]
    split
    · rw [List.length_set, ih]
    · exact ih
theorem set_getD {xs : List Int} {k i : Nat} {v : Int} : (xs.set k v)[i]?.getD 0 = if k = i ∧ k < xs.length then v else xs[i]?.getD 0 := by
  rw [List.getElem?_set]
  by_cases h : k = i
  · subst h
    by_cases h2 : k < xs.length
    · simp [h2]
    · simp [h2]
  · simp [h]
/-- Cells stay small. -/
theorem tblN_bd {ps : List Int} {vs : List (ByteArray × Int)} {t : TabD} {rs : List RecD} {g n : Nat} (h : TabOk ps vs t g n) (hd : dataB vs rs = true) : ∀ k : Nat, k ≤ rs.length → ∀ i : Nat, 0 ≤ (tblN ps vs t rs k)[i]?.getD 0 ∧ (tblN ps vs t rs k)[i]?.getD 0 ≤ 7 * (k : Int) := by
  intro k
  induction k with
  | zero =>
    intro _ i
    rw [tblN, List.getElem?_replicate]
    split <;> simp
  | succ k ih =>
    intro hk i
    have h1 := ih (by omega) i
    have h2 := h.amt (recB_vals (show recB vs (rA rs k) (rH rs k) (rV rs k) = true from (dataB_of hd).2 k (by omega)))
    rw [tblN]
    split
    · rw [set_getD]
      split
      · rename_i h9
        have h3 := ih (by omega) (cellI ps vs t (rA rs k) (rV rs k)).toNat
        omega
      · omega
    · omega
end Go.Proofs.YtfanpbfmnckmnaaGreat
