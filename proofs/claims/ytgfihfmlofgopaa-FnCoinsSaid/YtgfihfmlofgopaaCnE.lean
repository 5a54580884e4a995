/- ExpBounds: plain laws, and the program's; printed by gex.py. -/
import Derived.Test.YtgfihfmlofgopaaCnW
namespace Go.Proofs.Ytgfihfmlofgopaa
open Go.RowKit

def ebV (a b k : Int) : Option ((Int × Int) × (Int × Int)) := if chanceB a b 1 = true ∧ inR k 1 6 = true then (ebS a b (2 * k.toNat)).bind fun h => (ebS a b (2 * k.toNat - 1)).map fun l => (l, h) else none
theorem ebV_1 {a b k : Int} (h : chanceB a b 1 = false) : ebV a b k = none := by unfold ebV; rw [if_neg (by simp [h])]
theorem ebV_2 {a b k : Int} (h : inR k 1 6 = false) : ebV a b k = none := by unfold ebV; rw [if_neg (by simp [h])]
theorem ebV_no {a b : Int} {N i : Nat} (h : ebS a b i = none) (hi : i ≤ 2 * N) : ebV a b (N : Int) = none := by
  unfold ebV
  rw [Int.toNat_natCast, ebS_stop h hi]
  split <;> rfl
theorem ebV_yes {a b : Int} {N : Nat} {l h : Int × Int} (hc : chanceB a b 1 = true) (h1 : 1 ≤ N) (h2 : N ≤ 6) (hl : ebS a b (2 * N - 1) = some l) (hh : ebS a b (2 * N) = some h) : ebV a b (N : Int) = some (l, h) := by
  unfold ebV
  rw [if_pos ⟨hc, inR_yes (by omega) (by omega)⟩, Int.toNat_natCast, hl, hh]
  rfl
theorem ebS_noE {a b : Int} {i : Nat} (h : cT a b i = none) : ebS a b i = none := by
  cases i with
  | zero => rw [cT_zero] at h; cases h
  | succ i => exact ebS_no h
/-- Two bounds beside a bool. -/
def RetEb (w : World) (R : Option ((Int × Int) × (Int × Int))) (e : Ending) (w' : World) : Prop :=
  e = .returned (.tuple #[.agg #[.int .i64 (R.getD ((0, 0), (0, 0))).1.1, .int .i64 (R.getD ((0, 0), (0, 0))).1.2], .agg #[.int .i64 (R.getD ((0, 0), (0, 0))).2.1, .int .i64 (R.getD ((0, 0), (0, 0))).2.2], .bool R.isSome]) ∧ Below w.heap.size w w'
def sB (a b : Int) : Nat → Option (Int × Int)
  | 0 => some (0, 1)
  | j + 1 => ebS a b j
theorem sB_frac {a b p q : Int} {j : Nat} (h : sB a b j = some (p, q)) : fracB p q = true := by
  cases j with
  | zero =>
    rw [sB] at h
    cases h
    decide
  | succ j => exact ebS_frac h
theorem sB_step {a b p q x y : Int} {j : Nat} (h : sB a b j = some (p, q)) (h2 : cT a b j = some (x, y)) : sB a b (j + 1) = addO p q x y := by
  cases j with
  | zero =>
    rw [sB] at h
    rw [cT_zero] at h2
    cases h
    cases h2
    show some (1, 1) = addO 0 1 1 1
    decide
  | succ j => exact ebS_step h h2
theorem sB_no {a b : Int} {j : Nat} (h2 : cT a b j = none) : sB a b (j + 1) = none := by
  cases j with
  | zero => rw [cT_zero] at h2; cases h2
  | succ j => exact ebS_no h2
theorem cT_frac {a b p q : Int} {i : Nat} (h : cT a b i = some (p, q)) : fracB p q = true := redO_frac h
theorem fct_bd (j : Nat) (h : j ≤ 12) : fct j ≤ 479001600 := by
  have : ∀ j : Fin 13, fct j ≤ 479001600 := by decide
  exact this ⟨j, by omega⟩
theorem fct_frac {j : Nat} (h : j ≤ 12) : fracB (fct j) 1 = true := by
  have h1 := fct_pos j
  have h2 := fct_bd j h
  exact fracB_4 (inR_yes (by omega) (by omega)) (inR_yes (by omega) (by omega)) (by simp)
theorem neg_frac {a b : Int} (h : fracB a b = true) : fracB (-a) b = true := by
  have h1 := fracB_of h
  exact fracB_4 (inR_yes (by omega) (by omega)) (inR_yes (by omega) (by omega)) (by rw [Int.neg_gcd]; exact h1.2.2.2.2)
theorem set_otherE {w : World} {g a : Nat} {o : Obj} (h : w.heap[a]? = some o) (hne : a ≠ g) (u v : Value) : ((w.setCell ⟨g, 0, none⟩ u).setCell ⟨g, 1, none⟩ v).heap[a]? = some o := by
  rw [Below.heap_setCell _ ⟨g, 1, none⟩ v a hne, Below.heap_setCell _ ⟨g, 0, none⟩ u a hne]; exact h
theorem below_twoE {w0 w : World} {B g : Nat} (h : Below B w0 w) (hg : B ≤ g) (u v : Value) : Below B w0 ((w.setCell ⟨g, 0, none⟩ u).setCell ⟨g, 1, none⟩ v) := below_two h hg
theorem size_twoE (w : World) (g : Nat) (u v : Value) : ((w.setCell ⟨g, 0, none⟩ u).setCell ⟨g, 1, none⟩ v).heap.size = w.heap.size := by simp

set_option maxRecDepth 100000 in
set_option maxHeartbeats 4000000 in
theorem implExpBounds_any (a b k : Int) (w : World) :
    Calls Try.prog 20 #[.agg #[.int .i64 a, .int .i64 b], .int .i64 k] w (RetEb w (ebV a b k)) := by
  obtain ⟨RV, hRV⟩ : ∃ X, ebV a b k = X := ⟨_, rfl⟩
  rw [hRV]
  have HRV := Lib.hid hRV
  clear hRV
  cases hc : chanceB a b 1
  · have R := Lib.hid (ebV_1 (k := k) hc)
    have HC := Lib.hid hc
    clear hc
    obtain ⟨bb, xx, x4, x5⟩ := box_three w #[.int .i64 a, .int .i64 b] #[.int .i64 0, .int .i64 0] #[.int .i64 0, .int .i64 0] 27 27 27
    go_enter Try.func20, Try.ntmps20
    go_wp2_with fail
    generalize ((w.alloc (.cells #[.int .i64 a, .int .i64 b] 27)).alloc (.cells #[.int .i64 0, .int .i64 0] 27)).alloc (.cells #[.int .i64 0, .int .i64 0] 27) = w0 at *
    refine (isChance_any _ _ _).mono ?_
    rintro e w1 ⟨rfl, b1⟩
    rw [HC.out]
    have Xx := Lib.hid xx
    have X4 := Lib.hid x4
    have X5 := Lib.hid x5
    have HB := Lib.hid bb
    have s0 := lt_of_block x5
    clear xx x4 x5 bb
    have s1 := b1.size
    replace Xx := Lib.hid (box_below Xx.out b1)
    replace X4 := Lib.hid (box_below X4.out b1)
    replace X5 := Lib.hid (box_below X5.out b1)
    replace HB := Lib.hid (HB.out.trans (b1.mono HB.out.size))
    clear b1
    obtain rfl : RV = none := HRV.out.symm.trans (R.out)
    have l4 := lt_of_block X4.out
    have c40 := box_cell X4.out 0 _ rfl
    have c41 := box_cell X4.out 1 _ rfl
    have l5 := lt_of_block X5.out
    have c50 := box_cell X5.out 0 _ rfl
    have c51 := box_cell X5.out 1 _ rfl
    have f40 := box_free X4.out 0
    have f41 := box_free X4.out 1
    have f50 := box_free X5.out 0
    have f51 := box_free X5.out 1
    replace Xx := Lib.hid (set_otherE (g := w.heap.size + 1) Xx.out (by omega) (.int .i64 (0)) (.int .i64 (0)))
    replace X5 := Lib.hid (set_otherE (g := w.heap.size + 1) X5.out (by omega) (.int .i64 (0)) (.int .i64 (0)))
    replace X4 := Lib.hid (store_two X4.out (.int .i64 (0)) (.int .i64 (0)))
    replace HB := Lib.hid (below_twoE (g := w.heap.size + 1) HB.out (by omega) (.int .i64 (0)) (.int .i64 (0)))
    replace Xx := Lib.hid (set_otherE (g := w.heap.size + 1 + 1) Xx.out (by omega) (.int .i64 (0)) (.int .i64 (0)))
    replace X4 := Lib.hid (set_otherE (g := w.heap.size + 1 + 1) X4.out (by omega) (.int .i64 (0)) (.int .i64 (0)))
    replace X5 := Lib.hid (store_two X5.out (.int .i64 (0)) (.int .i64 (0)))
    replace HB := Lib.hid (below_twoE (g := w.heap.size + 1 + 1) HB.out (by omega) (.int .i64 (0)) (.int .i64 (0)))
    have e0 := box_cell X4.out 0 _ rfl
    have e1 := box_cell X4.out 1 _ rfl
    have e2 := box_cell X5.out 0 _ rfl
    have e3 := box_cell X5.out 1 _ rfl
    clear Xx X4 X5
    go_wp2
    exact bodyPost_ret (v := .tuple #[.agg #[.int .i64 0, .int .i64 0], .agg #[.int .i64 0, .int .i64 0], .bool false]) (by simp [results, Try.results20, go_sem, e0, e1, e2, e3]) rfl ⟨rfl, HB.out⟩
  have HC := Lib.hid hc
  by_cases hk : k < 1
  · have R := Lib.hid (ebV_2 (a := a) (b := b) (inR_no (show ¬ (1 ≤ k ∧ k ≤ 6) by omega)))
    have hc9 := hc
    clear hc hc9
    obtain ⟨bb, xx, x4, x5⟩ := box_three w #[.int .i64 a, .int .i64 b] #[.int .i64 0, .int .i64 0] #[.int .i64 0, .int .i64 0] 27 27 27
    go_enter Try.func20, Try.ntmps20
    go_wp2_with fail
    generalize ((w.alloc (.cells #[.int .i64 a, .int .i64 b] 27)).alloc (.cells #[.int .i64 0, .int .i64 0] 27)).alloc (.cells #[.int .i64 0, .int .i64 0] 27) = w0 at *
    refine (isChance_any _ _ _).mono ?_
    rintro e w1 ⟨rfl, b1⟩
    rw [HC.out]
    have Xx := Lib.hid xx
    have X4 := Lib.hid x4
    have X5 := Lib.hid x5
    have HB := Lib.hid bb
    have s0 := lt_of_block x5
    clear xx x4 x5 bb
    have s1 := b1.size
    replace Xx := Lib.hid (box_below Xx.out b1)
    replace X4 := Lib.hid (box_below X4.out b1)
    replace X5 := Lib.hid (box_below X5.out b1)
    replace HB := Lib.hid (HB.out.trans (b1.mono HB.out.size))
    clear b1
    obtain rfl : RV = none := HRV.out.symm.trans (R.out)
    have l4 := lt_of_block X4.out
    have c40 := box_cell X4.out 0 _ rfl
    have c41 := box_cell X4.out 1 _ rfl
    have l5 := lt_of_block X5.out
    have c50 := box_cell X5.out 0 _ rfl
    have c51 := box_cell X5.out 1 _ rfl
    have f40 := box_free X4.out 0
    have f41 := box_free X4.out 1
    have f50 := box_free X5.out 0
    have f51 := box_free X5.out 1
    replace Xx := Lib.hid (set_otherE (g := w.heap.size + 1) Xx.out (by omega) (.int .i64 (0)) (.int .i64 (0)))
    replace X5 := Lib.hid (set_otherE (g := w.heap.size + 1) X5.out (by omega) (.int .i64 (0)) (.int .i64 (0)))
    replace X4 := Lib.hid (store_two X4.out (.int .i64 (0)) (.int .i64 (0)))
    replace HB := Lib.hid (below_twoE (g := w.heap.size + 1) HB.out (by omega) (.int .i64 (0)) (.int .i64 (0)))
    replace Xx := Lib.hid (set_otherE (g := w.heap.size + 1 + 1) Xx.out (by omega) (.int .i64 (0)) (.int .i64 (0)))
    replace X4 := Lib.hid (set_otherE (g := w.heap.size + 1 + 1) X4.out (by omega) (.int .i64 (0)) (.int .i64 (0)))
    replace X5 := Lib.hid (store_two X5.out (.int .i64 (0)) (.int .i64 (0)))
    replace HB := Lib.hid (below_twoE (g := w.heap.size + 1 + 1) HB.out (by omega) (.int .i64 (0)) (.int .i64 (0)))
    have e0 := box_cell X4.out 0 _ rfl
    have e1 := box_cell X4.out 1 _ rfl
    have e2 := box_cell X5.out 0 _ rfl
    have e3 := box_cell X5.out 1 _ rfl
    clear Xx X4 X5
    go_wp2
    exact bodyPost_ret (v := .tuple #[.agg #[.int .i64 0, .int .i64 0], .agg #[.int .i64 0, .int .i64 0], .bool false]) (by simp [results, Try.results20, go_sem, e0, e1, e2, e3]) rfl ⟨rfl, HB.out⟩
  by_cases h6 : 6 < k
  · have R := Lib.hid (ebV_2 (a := a) (b := b) (inR_no (show ¬ (1 ≤ k ∧ k ≤ 6) by omega)))
    have hc9 := hc
    clear hc hc9
    obtain ⟨bb, xx, x4, x5⟩ := box_three w #[.int .i64 a, .int .i64 b] #[.int .i64 0, .int .i64 0] #[.int .i64 0, .int .i64 0] 27 27 27
    go_enter Try.func20, Try.ntmps20
    go_wp2_with fail
    generalize ((w.alloc (.cells #[.int .i64 a, .int .i64 b] 27)).alloc (.cells #[.int .i64 0, .int .i64 0] 27)).alloc (.cells #[.int .i64 0, .int .i64 0] 27) = w0 at *
    refine (isChance_any _ _ _).mono ?_
    rintro e w1 ⟨rfl, b1⟩
    rw [HC.out]
    have Xx := Lib.hid xx
    have X4 := Lib.hid x4
    have X5 := Lib.hid x5
    have HB := Lib.hid bb
    have s0 := lt_of_block x5
    clear xx x4 x5 bb
    have s1 := b1.size
    replace Xx := Lib.hid (box_below Xx.out b1)
    replace X4 := Lib.hid (box_below X4.out b1)
    replace X5 := Lib.hid (box_below X5.out b1)
    replace HB := Lib.hid (HB.out.trans (b1.mono HB.out.size))
    clear b1
    obtain rfl : RV = none := HRV.out.symm.trans (R.out)
    have l4 := lt_of_block X4.out
    have c40 := box_cell X4.out 0 _ rfl
    have c41 := box_cell X4.out 1 _ rfl
    have l5 := lt_of_block X5.out
    have c50 := box_cell X5.out 0 _ rfl
    have c51 := box_cell X5.out 1 _ rfl
    have f40 := box_free X4.out 0
    have f41 := box_free X4.out 1
    have f50 := box_free X5.out 0
    have f51 := box_free X5.out 1
    replace Xx := Lib.hid (set_otherE (g := w.heap.size + 1) Xx.out (by omega) (.int .i64 (0)) (.int .i64 (0)))
    replace X5 := Lib.hid (set_otherE (g := w.heap.size + 1) X5.out (by omega) (.int .i64 (0)) (.int .i64 (0)))
    replace X4 := Lib.hid (store_two X4.out (.int .i64 (0)) (.int .i64 (0)))
    replace HB := Lib.hid (below_twoE (g := w.heap.size + 1) HB.out (by omega) (.int .i64 (0)) (.int .i64 (0)))
    replace Xx := Lib.hid (set_otherE (g := w.heap.size + 1 + 1) Xx.out (by omega) (.int .i64 (0)) (.int .i64 (0)))
    replace X4 := Lib.hid (set_otherE (g := w.heap.size + 1 + 1) X4.out (by omega) (.int .i64 (0)) (.int .i64 (0)))
    replace X5 := Lib.hid (store_two X5.out (.int .i64 (0)) (.int .i64 (0)))
    replace HB := Lib.hid (below_twoE (g := w.heap.size + 1 + 1) HB.out (by omega) (.int .i64 (0)) (.int .i64 (0)))
    have e0 := box_cell X4.out 0 _ rfl
    have e1 := box_cell X4.out 1 _ rfl
    have e2 := box_cell X5.out 0 _ rfl
    have e3 := box_cell X5.out 1 _ rfl
    clear Xx X4 X5
    go_wp2
    exact bodyPost_ret (v := .tuple #[.agg #[.int .i64 0, .int .i64 0], .agg #[.int .i64 0, .int .i64 0], .bool false]) (by simp [results, Try.results20, go_sem, e0, e1, e2, e3]) rfl ⟨rfl, HB.out⟩
  obtain ⟨N, rfl⟩ := Int.eq_ofNat_of_zero_le (show 0 ≤ k by omega)
  have hN1 : 1 ≤ N := by omega
  have hN6 : N ≤ 6 := by omega
  obtain ⟨hf, ha0, hab'⟩ := chanceB_of hc
  have hab : a ≤ b := by omega
  clear hab'
  have HF := Lib.hid hf
  have HG := Lib.hid (neg_frac hf)
  obtain ⟨hb1, hb9, hn0, hn9, _⟩ := fracB_of hf
  clear hc hk h6 hf
  obtain ⟨bb, xx, x4, x5⟩ := box_three w #[.int .i64 a, .int .i64 b] #[.int .i64 0, .int .i64 0] #[.int .i64 0, .int .i64 0] 27 27 27
  go_enter Try.func20, Try.ntmps20
  go_wp2_with fail
  generalize ((w.alloc (.cells #[.int .i64 a, .int .i64 b] 27)).alloc (.cells #[.int .i64 0, .int .i64 0] 27)).alloc (.cells #[.int .i64 0, .int .i64 0] 27) = w0 at *
  refine (isChance_any _ _ _).mono ?_
  rintro e w1 ⟨rfl, b1⟩
  rw [HC.out]
  have Xx := Lib.hid xx
  have X4 := Lib.hid x4
  have X5 := Lib.hid x5
  have HB := Lib.hid bb
  have s0 := lt_of_block x5
  clear xx x4 x5 bb
  have s1 := b1.size
  replace Xx := Lib.hid (box_below Xx.out b1)
  replace X4 := Lib.hid (box_below X4.out b1)
  replace X5 := Lib.hid (box_below X5.out b1)
  replace HB := Lib.hid (HB.out.trans (b1.mono HB.out.size))
  clear b1
  have lx := lt_of_block Xx.out
  have cx0 := box_cell Xx.out 0 _ rfl
  have cx1 := box_cell Xx.out 1 _ rfl
  obtain ⟨b2, xS, xB, xM⟩ := box_three w1 #[.int .i64 0, .int .i64 1] #[.int .i64 0, .int .i64 0] #[.int .i64 (-a), .int .i64 b] 27 27 27
  go_wp2_with fail
  clear cx0 cx1 lx
  replace Xx := Lib.hid (box_below Xx.out b2)
  replace X4 := Lib.hid (box_below X4.out b2)
  replace X5 := Lib.hid (box_below X5.out b2)
  replace HB := Lib.hid (HB.out.trans (b2.mono HB.out.size))
  have XS := Lib.hid xS
  have XB := Lib.hid xB
  have XM := Lib.hid xM
  have sM := lt_of_block xM
  clear xS xB xM b2 Xx
  generalize ((w1.alloc (.cells #[.int .i64 0, .int .i64 1] 27)).alloc (.cells #[.int .i64 0, .int .i64 0] 27)).alloc (.cells #[.int .i64 (-a), .int .i64 b] 27) = w2 at *
  go_loopw [10, 39] (fun f i wr => ∃ (j : Nat) (p q p' q' : Int), j ≤ 2 * N + 1 ∧ f = .int .i64 (fct (j - 1)) ∧ i = .int .i64 j ∧ Hid (sB a b j = some (p, q)) ∧ Hid (j = 0 ∨ sB a b (j - 1) = some (p', q')) ∧ Hid (wr.heap[w.heap.size + 1]? = some (.cells #[.int .i64 0, .int .i64 0] 27 (0, 0))) ∧ Hid (wr.heap[w.heap.size + 1 + 1]? = some (.cells #[.int .i64 0, .int .i64 0] 27 (0, 0))) ∧ Hid (wr.heap[w1.heap.size]? = some (.cells #[.int .i64 p, .int .i64 q] 27 (0, 0))) ∧ Hid (wr.heap[w1.heap.size + 1]? = some (.cells #[.int .i64 p', .int .i64 q'] 27 (0, 0))) ∧ Hid (wr.heap[w1.heap.size + 1 + 1]? = some (.cells #[.int .i64 (-a), .int .i64 b] 27 (0, 0))) ∧ Hid (Below w.heap.size w wr)) (fun _ i _ => 2 * N + 1 - (intOf i).toNat)
  case atStart => exact ⟨0, 0, 1, 0, 0, Nat.zero_le _, rfl, rfl, Lib.hid rfl, Lib.hid (Or.inl rfl), X4, X5, XS, XB, XM, HB⟩
  case round =>
    clear X4 X5 XS XB XM HB sM
    obtain ⟨j, p, q, p', q', hj, rfl, rfl, HS, HP, X4, X5, XS, XB, XM, HB⟩ := hrel
    obtain ⟨w3', rfl⟩ : ∃ w3' : World, w3' = wr := ⟨_, rfl⟩
    have sM := lt_of_block XM.out
    by_cases hlt : j < 2 * N + 1
    · have hSF := sB_frac HS.out
      have HSF := Lib.hid hSF
      have hfb := fct_bd j (by omega)
      have hfp := fct_pos j
      by_cases hj0 : 0 < j
      · have hfe : fct (j - 1) * (j : Int) = fct j := by obtain ⟨m, rfl⟩ : ∃ m, j = m + 1 := ⟨j - 1, by omega⟩; rfl
        have HFE := Lib.hid hfe
        have HFC := Lib.hid (show fracB (fct (j - 1) * (j : Int)) 1 = true by rw [hfe]; exact fct_frac (by omega))
        have hf1 : 1 ≤ (fct (j - 1) * (j : Int)) := by omega
        have hf2 : (fct (j - 1) * (j : Int)) ≤ 479001600 := by omega
        clear hfe hfb hfp hSF
        have lM := lt_of_block XM.out
        have cM0 := box_cell XM.out 0 _ rfl
        have cM1 := box_cell XM.out 1 _ rfl
        go_wp2_with fail
        refine (powFrac_any (-a) b j _ HG.out (by omega)).mono ?_
        rintro e w5 ⟨rfl, b5⟩
        clear cM0 cM1 lM
        have s5 := b5.size
        replace X4 := Lib.hid (box_below X4.out b5)
        replace X5 := Lib.hid (box_below X5.out b5)
        replace XS := Lib.hid (box_below XS.out b5)
        replace XB := Lib.hid (box_below XB.out b5)
        replace XM := Lib.hid (box_below XM.out b5)
        replace HB := Lib.hid (HB.out.trans (b5.mono HB.out.size))
        clear b5
        cases hP : powO (-a) b j with
        | none =>
          have HE := Lib.hid (ebV_no (N := N) (ebS_noE (ti_no HF.out ha0 hab hP)) (by omega))
          clear hP
          simp only [fN, fD, fB]
          have b6 := below_new w5 (.cells #[.int .i64 0, .int .i64 0] 27)
          have xP := box_new w5 #[.int .i64 0, .int .i64 0] 27
          replace X4 := Lib.hid (box_below X4.out b6)
          replace X5 := Lib.hid (box_below X5.out b6)
          replace XS := Lib.hid (box_below XS.out b6)
          replace XB := Lib.hid (box_below XB.out b6)
          replace XM := Lib.hid (box_below XM.out b6)
          replace HB := Lib.hid (HB.out.trans (b6.mono HB.out.size))
          have XP := Lib.hid xP
          have s6 := b6.size
          clear xP b6
          obtain rfl : RV = none := HRV.out.symm.trans (HE.out)
          have l4 := lt_of_block X4.out
          have c40 := box_cell X4.out 0 _ rfl
          have c41 := box_cell X4.out 1 _ rfl
          have l5 := lt_of_block X5.out
          have c50 := box_cell X5.out 0 _ rfl
          have c51 := box_cell X5.out 1 _ rfl
          have f40 := box_free X4.out 0
          have f41 := box_free X4.out 1
          have f50 := box_free X5.out 0
          have f51 := box_free X5.out 1
          replace X5 := Lib.hid (set_otherE (g := w.heap.size + 1) X5.out (by omega) (.int .i64 (0)) (.int .i64 (0)))
          replace XS := Lib.hid (set_otherE (g := w.heap.size + 1) XS.out (by omega) (.int .i64 (0)) (.int .i64 (0)))
          replace XB := Lib.hid (set_otherE (g := w.heap.size + 1) XB.out (by omega) (.int .i64 (0)) (.int .i64 (0)))
          replace XM := Lib.hid (set_otherE (g := w.heap.size + 1) XM.out (by omega) (.int .i64 (0)) (.int .i64 (0)))
          replace XP := Lib.hid (set_otherE (g := w.heap.size + 1) XP.out (by omega) (.int .i64 (0)) (.int .i64 (0)))
          replace X4 := Lib.hid (store_two X4.out (.int .i64 (0)) (.int .i64 (0)))
          replace HB := Lib.hid (below_twoE (g := w.heap.size + 1) HB.out (by omega) (.int .i64 (0)) (.int .i64 (0)))
          replace X4 := Lib.hid (set_otherE (g := w.heap.size + 1 + 1) X4.out (by omega) (.int .i64 (0)) (.int .i64 (0)))
          replace XS := Lib.hid (set_otherE (g := w.heap.size + 1 + 1) XS.out (by omega) (.int .i64 (0)) (.int .i64 (0)))
          replace XB := Lib.hid (set_otherE (g := w.heap.size + 1 + 1) XB.out (by omega) (.int .i64 (0)) (.int .i64 (0)))
          replace XM := Lib.hid (set_otherE (g := w.heap.size + 1 + 1) XM.out (by omega) (.int .i64 (0)) (.int .i64 (0)))
          replace XP := Lib.hid (set_otherE (g := w.heap.size + 1 + 1) XP.out (by omega) (.int .i64 (0)) (.int .i64 (0)))
          replace X5 := Lib.hid (store_two X5.out (.int .i64 (0)) (.int .i64 (0)))
          replace HB := Lib.hid (below_twoE (g := w.heap.size + 1 + 1) HB.out (by omega) (.int .i64 (0)) (.int .i64 (0)))
          have e0 := box_cell X4.out 0 _ rfl
          have e1 := box_cell X4.out 1 _ rfl
          have e2 := box_cell X5.out 0 _ rfl
          have e3 := box_cell X5.out 1 _ rfl
          clear X4 X5 XS XB XM XP
          go_wp2
          exact bodyPost_ret (v := .tuple #[.agg #[.int .i64 0, .int .i64 0], .agg #[.int .i64 0, .int .i64 0], .bool false]) (by simp [results, Try.results20, go_sem, e0, e1, e2, e3]) rfl ⟨rfl, HB.out⟩
        | some r =>
          obtain ⟨x, y⟩ := r
          have HPF := Lib.hid (powO_frac hP)
          have HT := Lib.hid (show divO x y (fct (j - 1) * (j : Int)) 1 = cT a b j by rw [HFE.out]; exact ti_yes hb1 hP)
          clear hP
          simp only [fN, fD, fB]
          have b6 := below_new w5 (.cells #[.int .i64 x, .int .i64 y] 27)
          have xP := box_new w5 #[.int .i64 x, .int .i64 y] 27
          replace X4 := Lib.hid (box_below X4.out b6)
          replace X5 := Lib.hid (box_below X5.out b6)
          replace XS := Lib.hid (box_below XS.out b6)
          replace XB := Lib.hid (box_below XB.out b6)
          replace XM := Lib.hid (box_below XM.out b6)
          replace HB := Lib.hid (HB.out.trans (b6.mono HB.out.size))
          have XP := Lib.hid xP
          have s6 := b6.size
          clear xP b6
          have lP := lt_of_block XP.out
          have cP0 := box_cell XP.out 0 _ rfl
          have cP1 := box_cell XP.out 1 _ rfl
          go_wp2_with fail
          generalize w5.alloc (.cells #[.int .i64 x, .int .i64 y] 27) = w6 at *
          refine (divFrac_any x y (fct (j - 1) * (j : Int)) 1 _ HPF.out HFC.out).mono ?_
          rintro e w7 ⟨rfl, b7⟩
          clear cP0 cP1 lP
          have s7 := b7.size
          replace X4 := Lib.hid (box_below X4.out b7)
          replace X5 := Lib.hid (box_below X5.out b7)
          replace XS := Lib.hid (box_below XS.out b7)
          replace XB := Lib.hid (box_below XB.out b7)
          replace XM := Lib.hid (box_below XM.out b7)
          replace XP := Lib.hid (box_below XP.out b7)
          replace HB := Lib.hid (HB.out.trans (b7.mono HB.out.size))
          clear b7
          rw [HT.out]
          clear HT
          cases hC : cT a b j with
          | none =>
            have HE := Lib.hid (ebV_no (N := N) (ebS_noE hC) (by omega))
            clear hC
            simp only [fN, fD, fB]
            have b8 := below_new w7 (.cells #[.int .i64 0, .int .i64 0] 27)
            have xT := box_new w7 #[.int .i64 0, .int .i64 0] 27
            replace X4 := Lib.hid (box_below X4.out b8)
            replace X5 := Lib.hid (box_below X5.out b8)
            replace XS := Lib.hid (box_below XS.out b8)
            replace XB := Lib.hid (box_below XB.out b8)
            replace XM := Lib.hid (box_below XM.out b8)
            replace XP := Lib.hid (box_below XP.out b8)
            replace HB := Lib.hid (HB.out.trans (b8.mono HB.out.size))
            have XT := Lib.hid xT
            have s8 := b8.size
            clear xT b8
            obtain rfl : RV = none := HRV.out.symm.trans (HE.out)
            have l4 := lt_of_block X4.out
            have c40 := box_cell X4.out 0 _ rfl
            have c41 := box_cell X4.out 1 _ rfl
            have l5 := lt_of_block X5.out
            have c50 := box_cell X5.out 0 _ rfl
            have c51 := box_cell X5.out 1 _ rfl
            have f40 := box_free X4.out 0
            have f41 := box_free X4.out 1
            have f50 := box_free X5.out 0
            have f51 := box_free X5.out 1
            replace X5 := Lib.hid (set_otherE (g := w.heap.size + 1) X5.out (by omega) (.int .i64 (0)) (.int .i64 (0)))
            replace XS := Lib.hid (set_otherE (g := w.heap.size + 1) XS.out (by omega) (.int .i64 (0)) (.int .i64 (0)))
            replace XB := Lib.hid (set_otherE (g := w.heap.size + 1) XB.out (by omega) (.int .i64 (0)) (.int .i64 (0)))
            replace XM := Lib.hid (set_otherE (g := w.heap.size + 1) XM.out (by omega) (.int .i64 (0)) (.int .i64 (0)))
            replace XP := Lib.hid (set_otherE (g := w.heap.size + 1) XP.out (by omega) (.int .i64 (0)) (.int .i64 (0)))
            replace XT := Lib.hid (set_otherE (g := w.heap.size + 1) XT.out (by omega) (.int .i64 (0)) (.int .i64 (0)))
            replace X4 := Lib.hid (store_two X4.out (.int .i64 (0)) (.int .i64 (0)))
            replace HB := Lib.hid (below_twoE (g := w.heap.size + 1) HB.out (by omega) (.int .i64 (0)) (.int .i64 (0)))
            replace X4 := Lib.hid (set_otherE (g := w.heap.size + 1 + 1) X4.out (by omega) (.int .i64 (0)) (.int .i64 (0)))
            replace XS := Lib.hid (set_otherE (g := w.heap.size + 1 + 1) XS.out (by omega) (.int .i64 (0)) (.int .i64 (0)))
            replace XB := Lib.hid (set_otherE (g := w.heap.size + 1 + 1) XB.out (by omega) (.int .i64 (0)) (.int .i64 (0)))
            replace XM := Lib.hid (set_otherE (g := w.heap.size + 1 + 1) XM.out (by omega) (.int .i64 (0)) (.int .i64 (0)))
            replace XP := Lib.hid (set_otherE (g := w.heap.size + 1 + 1) XP.out (by omega) (.int .i64 (0)) (.int .i64 (0)))
            replace XT := Lib.hid (set_otherE (g := w.heap.size + 1 + 1) XT.out (by omega) (.int .i64 (0)) (.int .i64 (0)))
            replace X5 := Lib.hid (store_two X5.out (.int .i64 (0)) (.int .i64 (0)))
            replace HB := Lib.hid (below_twoE (g := w.heap.size + 1 + 1) HB.out (by omega) (.int .i64 (0)) (.int .i64 (0)))
            have e0 := box_cell X4.out 0 _ rfl
            have e1 := box_cell X4.out 1 _ rfl
            have e2 := box_cell X5.out 0 _ rfl
            have e3 := box_cell X5.out 1 _ rfl
            clear X4 X5 XS XB XM XP XT
            go_wp2
            exact bodyPost_ret (v := .tuple #[.agg #[.int .i64 0, .int .i64 0], .agg #[.int .i64 0, .int .i64 0], .bool false]) (by simp [results, Try.results20, go_sem, e0, e1, e2, e3]) rfl ⟨rfl, HB.out⟩
          | some r =>
            obtain ⟨u, v⟩ := r
            have HTF := Lib.hid (cT_frac hC)
            have HSS := Lib.hid (sB_step HS.out hC)
            clear hC
            simp only [fN, fD, fB]
            have b8 := below_new w7 (.cells #[.int .i64 u, .int .i64 v] 27)
            have xT := box_new w7 #[.int .i64 u, .int .i64 v] 27
            replace X4 := Lib.hid (box_below X4.out b8)
            replace X5 := Lib.hid (box_below X5.out b8)
            replace XS := Lib.hid (box_below XS.out b8)
            replace XB := Lib.hid (box_below XB.out b8)
            replace XM := Lib.hid (box_below XM.out b8)
            replace XP := Lib.hid (box_below XP.out b8)
            replace HB := Lib.hid (HB.out.trans (b8.mono HB.out.size))
            have XT := Lib.hid xT
            have s8 := b8.size
            clear xT b8
            have lS := lt_of_block XS.out
            have cS0 := box_cell XS.out 0 _ rfl
            have cS1 := box_cell XS.out 1 _ rfl
            have lT := lt_of_block XT.out
            have cT0 := box_cell XT.out 0 _ rfl
            have cT1 := box_cell XT.out 1 _ rfl
            have lB := lt_of_block XB.out
            have cB0 := box_cell XB.out 0 _ rfl
            have cB1 := box_cell XB.out 1 _ rfl
            have fB0 := box_free XB.out 0
            have fB1 := box_free XB.out 1
            replace X4 := Lib.hid (set_otherE (g := w1.heap.size + 1) X4.out (by omega) (.int .i64 (p)) (.int .i64 (q)))
            replace X5 := Lib.hid (set_otherE (g := w1.heap.size + 1) X5.out (by omega) (.int .i64 (p)) (.int .i64 (q)))
            replace XS := Lib.hid (set_otherE (g := w1.heap.size + 1) XS.out (by omega) (.int .i64 (p)) (.int .i64 (q)))
            replace XM := Lib.hid (set_otherE (g := w1.heap.size + 1) XM.out (by omega) (.int .i64 (p)) (.int .i64 (q)))
            replace XP := Lib.hid (set_otherE (g := w1.heap.size + 1) XP.out (by omega) (.int .i64 (p)) (.int .i64 (q)))
            replace XT := Lib.hid (set_otherE (g := w1.heap.size + 1) XT.out (by omega) (.int .i64 (p)) (.int .i64 (q)))
            replace XB := Lib.hid (store_two XB.out (.int .i64 (p)) (.int .i64 (q)))
            replace HB := Lib.hid (below_twoE (g := w1.heap.size + 1) HB.out (by omega) (.int .i64 (p)) (.int .i64 (q)))
            have dS0 := box_cell XS.out 0 _ rfl
            have dS1 := box_cell XS.out 1 _ rfl
            have dT0 := box_cell XT.out 0 _ rfl
            have dT1 := box_cell XT.out 1 _ rfl
            have s9 := size_twoE (w7.alloc (.cells #[.int .i64 u, .int .i64 v] 27)) (w1.heap.size + 1) (.int .i64 p) (.int .i64 q)
            have s9' := Nat.le_of_eq s9.symm
            clear s9
            go_wp2_with fail
            clear dS0 dS1 dT0 dT1
            clear cS0 cS1 lS cT0 cT1 lT cB0 cB1 lB fB0 fB1
            generalize ((w7.alloc (.cells #[.int .i64 u, .int .i64 v] 27)).setCell ⟨w1.heap.size + 1, 0, none⟩ (.int .i64 p)).setCell ⟨w1.heap.size + 1, 1, none⟩ (.int .i64 q) = w9 at *
            refine (addFrac_any p q u v _ HSF.out HTF.out).mono ?_
            rintro e w10 ⟨rfl, b10⟩
            have s10 := b10.size
            replace X4 := Lib.hid (box_below X4.out b10)
            replace X5 := Lib.hid (box_below X5.out b10)
            replace XS := Lib.hid (box_below XS.out b10)
            replace XB := Lib.hid (box_below XB.out b10)
            replace XM := Lib.hid (box_below XM.out b10)
            replace XP := Lib.hid (box_below XP.out b10)
            replace XT := Lib.hid (box_below XT.out b10)
            replace HB := Lib.hid (HB.out.trans (b10.mono HB.out.size))
            clear b10
            cases hA : addO p q u v with
            | none =>
              have HE := Lib.hid (ebV_no (N := N) (show ebS a b j = none from HSS.out.trans hA) (by omega))
              clear hA
              simp only [fN, fD, fB]
              obtain rfl : RV = none := HRV.out.symm.trans (HE.out)
              have l4 := lt_of_block X4.out
              have c40 := box_cell X4.out 0 _ rfl
              have c41 := box_cell X4.out 1 _ rfl
              have l5 := lt_of_block X5.out
              have c50 := box_cell X5.out 0 _ rfl
              have c51 := box_cell X5.out 1 _ rfl
              have f40 := box_free X4.out 0
              have f41 := box_free X4.out 1
              have f50 := box_free X5.out 0
              have f51 := box_free X5.out 1
              have lS := lt_of_block XS.out
              have cS0 := box_cell XS.out 0 _ rfl
              have cS1 := box_cell XS.out 1 _ rfl
              have fS0 := box_free XS.out 0
              have fS1 := box_free XS.out 1
              replace X4 := Lib.hid (set_otherE (g := w1.heap.size) X4.out (by omega) (.int .i64 (0)) (.int .i64 (0)))
              replace X5 := Lib.hid (set_otherE (g := w1.heap.size) X5.out (by omega) (.int .i64 (0)) (.int .i64 (0)))
              replace XB := Lib.hid (set_otherE (g := w1.heap.size) XB.out (by omega) (.int .i64 (0)) (.int .i64 (0)))
              replace XM := Lib.hid (set_otherE (g := w1.heap.size) XM.out (by omega) (.int .i64 (0)) (.int .i64 (0)))
              replace XP := Lib.hid (set_otherE (g := w1.heap.size) XP.out (by omega) (.int .i64 (0)) (.int .i64 (0)))
              replace XT := Lib.hid (set_otherE (g := w1.heap.size) XT.out (by omega) (.int .i64 (0)) (.int .i64 (0)))
              replace XS := Lib.hid (store_two XS.out (.int .i64 (0)) (.int .i64 (0)))
              replace HB := Lib.hid (below_twoE (g := w1.heap.size) HB.out (by omega) (.int .i64 (0)) (.int .i64 (0)))
              replace X5 := Lib.hid (set_otherE (g := w.heap.size + 1) X5.out (by omega) (.int .i64 (0)) (.int .i64 (0)))
              replace XS := Lib.hid (set_otherE (g := w.heap.size + 1) XS.out (by omega) (.int .i64 (0)) (.int .i64 (0)))
              replace XB := Lib.hid (set_otherE (g := w.heap.size + 1) XB.out (by omega) (.int .i64 (0)) (.int .i64 (0)))
              replace XM := Lib.hid (set_otherE (g := w.heap.size + 1) XM.out (by omega) (.int .i64 (0)) (.int .i64 (0)))
              replace XP := Lib.hid (set_otherE (g := w.heap.size + 1) XP.out (by omega) (.int .i64 (0)) (.int .i64 (0)))
              replace XT := Lib.hid (set_otherE (g := w.heap.size + 1) XT.out (by omega) (.int .i64 (0)) (.int .i64 (0)))
              replace X4 := Lib.hid (store_two X4.out (.int .i64 (0)) (.int .i64 (0)))
              replace HB := Lib.hid (below_twoE (g := w.heap.size + 1) HB.out (by omega) (.int .i64 (0)) (.int .i64 (0)))
              replace X4 := Lib.hid (set_otherE (g := w.heap.size + 1 + 1) X4.out (by omega) (.int .i64 (0)) (.int .i64 (0)))
              replace XS := Lib.hid (set_otherE (g := w.heap.size + 1 + 1) XS.out (by omega) (.int .i64 (0)) (.int .i64 (0)))
              replace XB := Lib.hid (set_otherE (g := w.heap.size + 1 + 1) XB.out (by omega) (.int .i64 (0)) (.int .i64 (0)))
              replace XM := Lib.hid (set_otherE (g := w.heap.size + 1 + 1) XM.out (by omega) (.int .i64 (0)) (.int .i64 (0)))
              replace XP := Lib.hid (set_otherE (g := w.heap.size + 1 + 1) XP.out (by omega) (.int .i64 (0)) (.int .i64 (0)))
              replace XT := Lib.hid (set_otherE (g := w.heap.size + 1 + 1) XT.out (by omega) (.int .i64 (0)) (.int .i64 (0)))
              replace X5 := Lib.hid (store_two X5.out (.int .i64 (0)) (.int .i64 (0)))
              replace HB := Lib.hid (below_twoE (g := w.heap.size + 1 + 1) HB.out (by omega) (.int .i64 (0)) (.int .i64 (0)))
              have e0 := box_cell X4.out 0 _ rfl
              have e1 := box_cell X4.out 1 _ rfl
              have e2 := box_cell X5.out 0 _ rfl
              have e3 := box_cell X5.out 1 _ rfl
              clear X4 X5 XS XB XM XP XT
              go_wp2
              exact bodyPost_ret (v := .tuple #[.agg #[.int .i64 0, .int .i64 0], .agg #[.int .i64 0, .int .i64 0], .bool false]) (by simp [results, Try.results20, go_sem, e0, e1, e2, e3]) rfl ⟨rfl, HB.out⟩
            | some r =>
              obtain ⟨x2, y2⟩ := r
              have HS2 := Lib.hid (HSS.out.trans hA)
              clear hA HSS
              simp only [fN, fD, fB]
              have lS := lt_of_block XS.out
              have cS0 := box_cell XS.out 0 _ rfl
              have cS1 := box_cell XS.out 1 _ rfl
              have fS0 := box_free XS.out 0
              have fS1 := box_free XS.out 1
              replace X4 := Lib.hid (set_otherE (g := w1.heap.size) X4.out (by omega) (.int .i64 (x2)) (.int .i64 (y2)))
              replace X5 := Lib.hid (set_otherE (g := w1.heap.size) X5.out (by omega) (.int .i64 (x2)) (.int .i64 (y2)))
              replace XB := Lib.hid (set_otherE (g := w1.heap.size) XB.out (by omega) (.int .i64 (x2)) (.int .i64 (y2)))
              replace XM := Lib.hid (set_otherE (g := w1.heap.size) XM.out (by omega) (.int .i64 (x2)) (.int .i64 (y2)))
              replace XP := Lib.hid (set_otherE (g := w1.heap.size) XP.out (by omega) (.int .i64 (x2)) (.int .i64 (y2)))
              replace XT := Lib.hid (set_otherE (g := w1.heap.size) XT.out (by omega) (.int .i64 (x2)) (.int .i64 (y2)))
              replace XS := Lib.hid (store_two XS.out (.int .i64 (x2)) (.int .i64 (y2)))
              replace HB := Lib.hid (below_twoE (g := w1.heap.size) HB.out (by omega) (.int .i64 (x2)) (.int .i64 (y2)))
              go_wp2
              go_roundw
              case rel => exact ⟨j + 1, x2, y2, p, q, by omega, by rw [HFE.out]; rfl, by go_num, HS2, Lib.hid (Or.inr HS.out), X4, X5, XS, XB, XM, HB⟩
              case measure => simp [intOf]; omega
      · have hfe : fct (j - 1) = fct j := by congr 1; omega
        have HFE := Lib.hid hfe
        have HFC := Lib.hid (show fracB (fct (j - 1)) 1 = true by rw [hfe]; exact fct_frac (by omega))
        have hf1 : 1 ≤ (fct (j - 1)) := by omega
        have hf2 : (fct (j - 1)) ≤ 479001600 := by omega
        clear hfe hfb hfp hSF
        have lM := lt_of_block XM.out
        have cM0 := box_cell XM.out 0 _ rfl
        have cM1 := box_cell XM.out 1 _ rfl
        go_wp2_with fail
        refine (powFrac_any (-a) b j _ HG.out (by omega)).mono ?_
        rintro e w5 ⟨rfl, b5⟩
        clear cM0 cM1 lM
        have s5 := b5.size
        replace X4 := Lib.hid (box_below X4.out b5)
        replace X5 := Lib.hid (box_below X5.out b5)
        replace XS := Lib.hid (box_below XS.out b5)
        replace XB := Lib.hid (box_below XB.out b5)
        replace XM := Lib.hid (box_below XM.out b5)
        replace HB := Lib.hid (HB.out.trans (b5.mono HB.out.size))
        clear b5
        cases hP : powO (-a) b j with
        | none =>
          have HE := Lib.hid (ebV_no (N := N) (ebS_noE (ti_no HF.out ha0 hab hP)) (by omega))
          clear hP
          simp only [fN, fD, fB]
          have b6 := below_new w5 (.cells #[.int .i64 0, .int .i64 0] 27)
          have xP := box_new w5 #[.int .i64 0, .int .i64 0] 27
          replace X4 := Lib.hid (box_below X4.out b6)
          replace X5 := Lib.hid (box_below X5.out b6)
          replace XS := Lib.hid (box_below XS.out b6)
          replace XB := Lib.hid (box_below XB.out b6)
          replace XM := Lib.hid (box_below XM.out b6)
          replace HB := Lib.hid (HB.out.trans (b6.mono HB.out.size))
          have XP := Lib.hid xP
          have s6 := b6.size
          clear xP b6
          obtain rfl : RV = none := HRV.out.symm.trans (HE.out)
          have l4 := lt_of_block X4.out
          have c40 := box_cell X4.out 0 _ rfl
          have c41 := box_cell X4.out 1 _ rfl
          have l5 := lt_of_block X5.out
          have c50 := box_cell X5.out 0 _ rfl
          have c51 := box_cell X5.out 1 _ rfl
          have f40 := box_free X4.out 0
          have f41 := box_free X4.out 1
          have f50 := box_free X5.out 0
          have f51 := box_free X5.out 1
          replace X5 := Lib.hid (set_otherE (g := w.heap.size + 1) X5.out (by omega) (.int .i64 (0)) (.int .i64 (0)))
          replace XS := Lib.hid (set_otherE (g := w.heap.size + 1) XS.out (by omega) (.int .i64 (0)) (.int .i64 (0)))
          replace XB := Lib.hid (set_otherE (g := w.heap.size + 1) XB.out (by omega) (.int .i64 (0)) (.int .i64 (0)))
          replace XM := Lib.hid (set_otherE (g := w.heap.size + 1) XM.out (by omega) (.int .i64 (0)) (.int .i64 (0)))
          replace XP := Lib.hid (set_otherE (g := w.heap.size + 1) XP.out (by omega) (.int .i64 (0)) (.int .i64 (0)))
          replace X4 := Lib.hid (store_two X4.out (.int .i64 (0)) (.int .i64 (0)))
          replace HB := Lib.hid (below_twoE (g := w.heap.size + 1) HB.out (by omega) (.int .i64 (0)) (.int .i64 (0)))
          replace X4 := Lib.hid (set_otherE (g := w.heap.size + 1 + 1) X4.out (by omega) (.int .i64 (0)) (.int .i64 (0)))
          replace XS := Lib.hid (set_otherE (g := w.heap.size + 1 + 1) XS.out (by omega) (.int .i64 (0)) (.int .i64 (0)))
          replace XB := Lib.hid (set_otherE (g := w.heap.size + 1 + 1) XB.out (by omega) (.int .i64 (0)) (.int .i64 (0)))
          replace XM := Lib.hid (set_otherE (g := w.heap.size + 1 + 1) XM.out (by omega) (.int .i64 (0)) (.int .i64 (0)))
          replace XP := Lib.hid (set_otherE (g := w.heap.size + 1 + 1) XP.out (by omega) (.int .i64 (0)) (.int .i64 (0)))
          replace X5 := Lib.hid (store_two X5.out (.int .i64 (0)) (.int .i64 (0)))
          replace HB := Lib.hid (below_twoE (g := w.heap.size + 1 + 1) HB.out (by omega) (.int .i64 (0)) (.int .i64 (0)))
          have e0 := box_cell X4.out 0 _ rfl
          have e1 := box_cell X4.out 1 _ rfl
          have e2 := box_cell X5.out 0 _ rfl
          have e3 := box_cell X5.out 1 _ rfl
          clear X4 X5 XS XB XM XP
          go_wp2
          exact bodyPost_ret (v := .tuple #[.agg #[.int .i64 0, .int .i64 0], .agg #[.int .i64 0, .int .i64 0], .bool false]) (by simp [results, Try.results20, go_sem, e0, e1, e2, e3]) rfl ⟨rfl, HB.out⟩
        | some r =>
          obtain ⟨x, y⟩ := r
          have HPF := Lib.hid (powO_frac hP)
          have HT := Lib.hid (show divO x y (fct (j - 1)) 1 = cT a b j by rw [HFE.out]; exact ti_yes hb1 hP)
          clear hP
          simp only [fN, fD, fB]
          have b6 := below_new w5 (.cells #[.int .i64 x, .int .i64 y] 27)
          have xP := box_new w5 #[.int .i64 x, .int .i64 y] 27
          replace X4 := Lib.hid (box_below X4.out b6)
          replace X5 := Lib.hid (box_below X5.out b6)
          replace XS := Lib.hid (box_below XS.out b6)
          replace XB := Lib.hid (box_below XB.out b6)
          replace XM := Lib.hid (box_below XM.out b6)
          replace HB := Lib.hid (HB.out.trans (b6.mono HB.out.size))
          have XP := Lib.hid xP
          have s6 := b6.size
          clear xP b6
          have lP := lt_of_block XP.out
          have cP0 := box_cell XP.out 0 _ rfl
          have cP1 := box_cell XP.out 1 _ rfl
          go_wp2_with fail
          generalize w5.alloc (.cells #[.int .i64 x, .int .i64 y] 27) = w6 at *
          refine (divFrac_any x y (fct (j - 1)) 1 _ HPF.out HFC.out).mono ?_
          rintro e w7 ⟨rfl, b7⟩
          clear cP0 cP1 lP
          have s7 := b7.size
          replace X4 := Lib.hid (box_below X4.out b7)
          replace X5 := Lib.hid (box_below X5.out b7)
          replace XS := Lib.hid (box_below XS.out b7)
          replace XB := Lib.hid (box_below XB.out b7)
          replace XM := Lib.hid (box_below XM.out b7)
          replace XP := Lib.hid (box_below XP.out b7)
          replace HB := Lib.hid (HB.out.trans (b7.mono HB.out.size))
          clear b7
          rw [HT.out]
          clear HT
          cases hC : cT a b j with
          | none =>
            have HE := Lib.hid (ebV_no (N := N) (ebS_noE hC) (by omega))
            clear hC
            simp only [fN, fD, fB]
            have b8 := below_new w7 (.cells #[.int .i64 0, .int .i64 0] 27)
            have xT := box_new w7 #[.int .i64 0, .int .i64 0] 27
            replace X4 := Lib.hid (box_below X4.out b8)
            replace X5 := Lib.hid (box_below X5.out b8)
            replace XS := Lib.hid (box_below XS.out b8)
            replace XB := Lib.hid (box_below XB.out b8)
            replace XM := Lib.hid (box_below XM.out b8)
            replace XP := Lib.hid (box_below XP.out b8)
            replace HB := Lib.hid (HB.out.trans (b8.mono HB.out.size))
            have XT := Lib.hid xT
            have s8 := b8.size
            clear xT b8
            obtain rfl : RV = none := HRV.out.symm.trans (HE.out)
            have l4 := lt_of_block X4.out
            have c40 := box_cell X4.out 0 _ rfl
            have c41 := box_cell X4.out 1 _ rfl
            have l5 := lt_of_block X5.out
            have c50 := box_cell X5.out 0 _ rfl
            have c51 := box_cell X5.out 1 _ rfl
            have f40 := box_free X4.out 0
            have f41 := box_free X4.out 1
            have f50 := box_free X5.out 0
            have f51 := box_free X5.out 1
            replace X5 := Lib.hid (set_otherE (g := w.heap.size + 1) X5.out (by omega) (.int .i64 (0)) (.int .i64 (0)))
            replace XS := Lib.hid (set_otherE (g := w.heap.size + 1) XS.out (by omega) (.int .i64 (0)) (.int .i64 (0)))
            replace XB := Lib.hid (set_otherE (g := w.heap.size + 1) XB.out (by omega) (.int .i64 (0)) (.int .i64 (0)))
            replace XM := Lib.hid (set_otherE (g := w.heap.size + 1) XM.out (by omega) (.int .i64 (0)) (.int .i64 (0)))
            replace XP := Lib.hid (set_otherE (g := w.heap.size + 1) XP.out (by omega) (.int .i64 (0)) (.int .i64 (0)))
            replace XT := Lib.hid (set_otherE (g := w.heap.size + 1) XT.out (by omega) (.int .i64 (0)) (.int .i64 (0)))
            replace X4 := Lib.hid (store_two X4.out (.int .i64 (0)) (.int .i64 (0)))
            replace HB := Lib.hid (below_twoE (g := w.heap.size + 1) HB.out (by omega) (.int .i64 (0)) (.int .i64 (0)))
            replace X4 := Lib.hid (set_otherE (g := w.heap.size + 1 + 1) X4.out (by omega) (.int .i64 (0)) (.int .i64 (0)))
            replace XS := Lib.hid (set_otherE (g := w.heap.size + 1 + 1) XS.out (by omega) (.int .i64 (0)) (.int .i64 (0)))
            replace XB := Lib.hid (set_otherE (g := w.heap.size + 1 + 1) XB.out (by omega) (.int .i64 (0)) (.int .i64 (0)))
            replace XM := Lib.hid (set_otherE (g := w.heap.size + 1 + 1) XM.out (by omega) (.int .i64 (0)) (.int .i64 (0)))
            replace XP := Lib.hid (set_otherE (g := w.heap.size + 1 + 1) XP.out (by omega) (.int .i64 (0)) (.int .i64 (0)))
            replace XT := Lib.hid (set_otherE (g := w.heap.size + 1 + 1) XT.out (by omega) (.int .i64 (0)) (.int .i64 (0)))
            replace X5 := Lib.hid (store_two X5.out (.int .i64 (0)) (.int .i64 (0)))
            replace HB := Lib.hid (below_twoE (g := w.heap.size + 1 + 1) HB.out (by omega) (.int .i64 (0)) (.int .i64 (0)))
            have e0 := box_cell X4.out 0 _ rfl
            have e1 := box_cell X4.out 1 _ rfl
            have e2 := box_cell X5.out 0 _ rfl
            have e3 := box_cell X5.out 1 _ rfl
            clear X4 X5 XS XB XM XP XT
            go_wp2
            exact bodyPost_ret (v := .tuple #[.agg #[.int .i64 0, .int .i64 0], .agg #[.int .i64 0, .int .i64 0], .bool false]) (by simp [results, Try.results20, go_sem, e0, e1, e2, e3]) rfl ⟨rfl, HB.out⟩
          | some r =>
            obtain ⟨u, v⟩ := r
            have HTF := Lib.hid (cT_frac hC)
            have HSS := Lib.hid (sB_step HS.out hC)
            clear hC
            simp only [fN, fD, fB]
            have b8 := below_new w7 (.cells #[.int .i64 u, .int .i64 v] 27)
            have xT := box_new w7 #[.int .i64 u, .int .i64 v] 27
            replace X4 := Lib.hid (box_below X4.out b8)
            replace X5 := Lib.hid (box_below X5.out b8)
            replace XS := Lib.hid (box_below XS.out b8)
            replace XB := Lib.hid (box_below XB.out b8)
            replace XM := Lib.hid (box_below XM.out b8)
            replace XP := Lib.hid (box_below XP.out b8)
            replace HB := Lib.hid (HB.out.trans (b8.mono HB.out.size))
            have XT := Lib.hid xT
            have s8 := b8.size
            clear xT b8
            have lS := lt_of_block XS.out
            have cS0 := box_cell XS.out 0 _ rfl
            have cS1 := box_cell XS.out 1 _ rfl
            have lT := lt_of_block XT.out
            have cT0 := box_cell XT.out 0 _ rfl
            have cT1 := box_cell XT.out 1 _ rfl
            have lB := lt_of_block XB.out
            have cB0 := box_cell XB.out 0 _ rfl
            have cB1 := box_cell XB.out 1 _ rfl
            have fB0 := box_free XB.out 0
            have fB1 := box_free XB.out 1
            replace X4 := Lib.hid (set_otherE (g := w1.heap.size + 1) X4.out (by omega) (.int .i64 (p)) (.int .i64 (q)))
            replace X5 := Lib.hid (set_otherE (g := w1.heap.size + 1) X5.out (by omega) (.int .i64 (p)) (.int .i64 (q)))
            replace XS := Lib.hid (set_otherE (g := w1.heap.size + 1) XS.out (by omega) (.int .i64 (p)) (.int .i64 (q)))
            replace XM := Lib.hid (set_otherE (g := w1.heap.size + 1) XM.out (by omega) (.int .i64 (p)) (.int .i64 (q)))
            replace XP := Lib.hid (set_otherE (g := w1.heap.size + 1) XP.out (by omega) (.int .i64 (p)) (.int .i64 (q)))
            replace XT := Lib.hid (set_otherE (g := w1.heap.size + 1) XT.out (by omega) (.int .i64 (p)) (.int .i64 (q)))
            replace XB := Lib.hid (store_two XB.out (.int .i64 (p)) (.int .i64 (q)))
            replace HB := Lib.hid (below_twoE (g := w1.heap.size + 1) HB.out (by omega) (.int .i64 (p)) (.int .i64 (q)))
            have dS0 := box_cell XS.out 0 _ rfl
            have dS1 := box_cell XS.out 1 _ rfl
            have dT0 := box_cell XT.out 0 _ rfl
            have dT1 := box_cell XT.out 1 _ rfl
            have s9 := size_twoE (w7.alloc (.cells #[.int .i64 u, .int .i64 v] 27)) (w1.heap.size + 1) (.int .i64 p) (.int .i64 q)
            have s9' := Nat.le_of_eq s9.symm
            clear s9
            go_wp2_with fail
            clear dS0 dS1 dT0 dT1
            clear cS0 cS1 lS cT0 cT1 lT cB0 cB1 lB fB0 fB1
            generalize ((w7.alloc (.cells #[.int .i64 u, .int .i64 v] 27)).setCell ⟨w1.heap.size + 1, 0, none⟩ (.int .i64 p)).setCell ⟨w1.heap.size + 1, 1, none⟩ (.int .i64 q) = w9 at *
            refine (addFrac_any p q u v _ HSF.out HTF.out).mono ?_
            rintro e w10 ⟨rfl, b10⟩
            have s10 := b10.size
            replace X4 := Lib.hid (box_below X4.out b10)
            replace X5 := Lib.hid (box_below X5.out b10)
            replace XS := Lib.hid (box_below XS.out b10)
            replace XB := Lib.hid (box_below XB.out b10)
            replace XM := Lib.hid (box_below XM.out b10)
            replace XP := Lib.hid (box_below XP.out b10)
            replace XT := Lib.hid (box_below XT.out b10)
            replace HB := Lib.hid (HB.out.trans (b10.mono HB.out.size))
            clear b10
            cases hA : addO p q u v with
            | none =>
              have HE := Lib.hid (ebV_no (N := N) (show ebS a b j = none from HSS.out.trans hA) (by omega))
              clear hA
              simp only [fN, fD, fB]
              obtain rfl : RV = none := HRV.out.symm.trans (HE.out)
              have l4 := lt_of_block X4.out
              have c40 := box_cell X4.out 0 _ rfl
              have c41 := box_cell X4.out 1 _ rfl
              have l5 := lt_of_block X5.out
              have c50 := box_cell X5.out 0 _ rfl
              have c51 := box_cell X5.out 1 _ rfl
              have f40 := box_free X4.out 0
              have f41 := box_free X4.out 1
              have f50 := box_free X5.out 0
              have f51 := box_free X5.out 1
              have lS := lt_of_block XS.out
              have cS0 := box_cell XS.out 0 _ rfl
              have cS1 := box_cell XS.out 1 _ rfl
              have fS0 := box_free XS.out 0
              have fS1 := box_free XS.out 1
              replace X4 := Lib.hid (set_otherE (g := w1.heap.size) X4.out (by omega) (.int .i64 (0)) (.int .i64 (0)))
              replace X5 := Lib.hid (set_otherE (g := w1.heap.size) X5.out (by omega) (.int .i64 (0)) (.int .i64 (0)))
              replace XB := Lib.hid (set_otherE (g := w1.heap.size) XB.out (by omega) (.int .i64 (0)) (.int .i64 (0)))
              replace XM := Lib.hid (set_otherE (g := w1.heap.size) XM.out (by omega) (.int .i64 (0)) (.int .i64 (0)))
              replace XP := Lib.hid (set_otherE (g := w1.heap.size) XP.out (by omega) (.int .i64 (0)) (.int .i64 (0)))
              replace XT := Lib.hid (set_otherE (g := w1.heap.size) XT.out (by omega) (.int .i64 (0)) (.int .i64 (0)))
              replace XS := Lib.hid (store_two XS.out (.int .i64 (0)) (.int .i64 (0)))
              replace HB := Lib.hid (below_twoE (g := w1.heap.size) HB.out (by omega) (.int .i64 (0)) (.int .i64 (0)))
              replace X5 := Lib.hid (set_otherE (g := w.heap.size + 1) X5.out (by omega) (.int .i64 (0)) (.int .i64 (0)))
              replace XS := Lib.hid (set_otherE (g := w.heap.size + 1) XS.out (by omega) (.int .i64 (0)) (.int .i64 (0)))
              replace XB := Lib.hid (set_otherE (g := w.heap.size + 1) XB.out (by omega) (.int .i64 (0)) (.int .i64 (0)))
              replace XM := Lib.hid (set_otherE (g := w.heap.size + 1) XM.out (by omega) (.int .i64 (0)) (.int .i64 (0)))
              replace XP := Lib.hid (set_otherE (g := w.heap.size + 1) XP.out (by omega) (.int .i64 (0)) (.int .i64 (0)))
              replace XT := Lib.hid (set_otherE (g := w.heap.size + 1) XT.out (by omega) (.int .i64 (0)) (.int .i64 (0)))
              replace X4 := Lib.hid (store_two X4.out (.int .i64 (0)) (.int .i64 (0)))
              replace HB := Lib.hid (below_twoE (g := w.heap.size + 1) HB.out (by omega) (.int .i64 (0)) (.int .i64 (0)))
              replace X4 := Lib.hid (set_otherE (g := w.heap.size + 1 + 1) X4.out (by omega) (.int .i64 (0)) (.int .i64 (0)))
              replace XS := Lib.hid (set_otherE (g := w.heap.size + 1 + 1) XS.out (by omega) (.int .i64 (0)) (.int .i64 (0)))
              replace XB := Lib.hid (set_otherE (g := w.heap.size + 1 + 1) XB.out (by omega) (.int .i64 (0)) (.int .i64 (0)))
              replace XM := Lib.hid (set_otherE (g := w.heap.size + 1 + 1) XM.out (by omega) (.int .i64 (0)) (.int .i64 (0)))
              replace XP := Lib.hid (set_otherE (g := w.heap.size + 1 + 1) XP.out (by omega) (.int .i64 (0)) (.int .i64 (0)))
              replace XT := Lib.hid (set_otherE (g := w.heap.size + 1 + 1) XT.out (by omega) (.int .i64 (0)) (.int .i64 (0)))
              replace X5 := Lib.hid (store_two X5.out (.int .i64 (0)) (.int .i64 (0)))
              replace HB := Lib.hid (below_twoE (g := w.heap.size + 1 + 1) HB.out (by omega) (.int .i64 (0)) (.int .i64 (0)))
              have e0 := box_cell X4.out 0 _ rfl
              have e1 := box_cell X4.out 1 _ rfl
              have e2 := box_cell X5.out 0 _ rfl
              have e3 := box_cell X5.out 1 _ rfl
              clear X4 X5 XS XB XM XP XT
              go_wp2
              exact bodyPost_ret (v := .tuple #[.agg #[.int .i64 0, .int .i64 0], .agg #[.int .i64 0, .int .i64 0], .bool false]) (by simp [results, Try.results20, go_sem, e0, e1, e2, e3]) rfl ⟨rfl, HB.out⟩
            | some r =>
              obtain ⟨x2, y2⟩ := r
              have HS2 := Lib.hid (HSS.out.trans hA)
              clear hA HSS
              simp only [fN, fD, fB]
              have lS := lt_of_block XS.out
              have cS0 := box_cell XS.out 0 _ rfl
              have cS1 := box_cell XS.out 1 _ rfl
              have fS0 := box_free XS.out 0
              have fS1 := box_free XS.out 1
              replace X4 := Lib.hid (set_otherE (g := w1.heap.size) X4.out (by omega) (.int .i64 (x2)) (.int .i64 (y2)))
              replace X5 := Lib.hid (set_otherE (g := w1.heap.size) X5.out (by omega) (.int .i64 (x2)) (.int .i64 (y2)))
              replace XB := Lib.hid (set_otherE (g := w1.heap.size) XB.out (by omega) (.int .i64 (x2)) (.int .i64 (y2)))
              replace XM := Lib.hid (set_otherE (g := w1.heap.size) XM.out (by omega) (.int .i64 (x2)) (.int .i64 (y2)))
              replace XP := Lib.hid (set_otherE (g := w1.heap.size) XP.out (by omega) (.int .i64 (x2)) (.int .i64 (y2)))
              replace XT := Lib.hid (set_otherE (g := w1.heap.size) XT.out (by omega) (.int .i64 (x2)) (.int .i64 (y2)))
              replace XS := Lib.hid (store_two XS.out (.int .i64 (x2)) (.int .i64 (y2)))
              replace HB := Lib.hid (below_twoE (g := w1.heap.size) HB.out (by omega) (.int .i64 (x2)) (.int .i64 (y2)))
              go_wp2
              go_roundw
              case rel => exact ⟨j + 1, x2, y2, p, q, by omega, by rw [HFE.out]; rfl, by go_num, HS2, Lib.hid (Or.inr HS.out), X4, X5, XS, XB, XM, HB⟩
              case measure => simp [intOf]; omega
    · obtain rfl : j = 2 * N + 1 := by omega
      have hl : ebS a b (2 * N - 1) = some (p', q') := by
        have h := HP.out.resolve_left (by omega)
        obtain ⟨m, hm⟩ : ∃ m, 2 * N = m + 1 := ⟨2 * N - 1, by omega⟩
        rw [show 2 * N + 1 - 1 = m + 1 by omega] at h
        rw [show 2 * N - 1 = m by omega]
        exact h
      obtain rfl : RV = some ((p', q'), (p, q)) := HRV.out.symm.trans (ebV_yes HC.out hN1 hN6 hl HS.out)
      clear hl HS HP HRV
      go_wp2_with fail
      have xB := XB.out
      have lB := lt_of_block xB
      have dB0 := box_cell xB 0 _ rfl
      have dB1 := box_cell xB 1 _ rfl
      have xS := XS.out
      have lS := lt_of_block xS
      have dS0 := box_cell xS 0 _ rfl
      have dS1 := box_cell xS 1 _ rfl
      have x4 := X4.out
      have l4 := lt_of_block x4
      have d40 := box_cell x4 0 _ rfl
      have d41 := box_cell x4 1 _ rfl
      have x5 := X5.out
      have l5 := lt_of_block x5
      have d50 := box_cell x5 0 _ rfl
      have d51 := box_cell x5 1 _ rfl
      have f40 := box_free x4 0
      have f41 := box_free x4 1
      have f50 := box_free x5 0
      have f51 := box_free x5 1
      have nB4 : w1.heap.size + 1 ≠ w.heap.size + 1 := by omega
      have nB5 : w1.heap.size + 1 ≠ w.heap.size + 1 + 1 := by omega
      have nS4 : w1.heap.size ≠ w.heap.size + 1 := by omega
      have nS5 : w1.heap.size ≠ w.heap.size + 1 + 1 := by omega
      have n45 : w.heap.size + 1 ≠ w.heap.size + 1 + 1 := by omega
      have n54 : w.heap.size + 1 + 1 ≠ w.heap.size + 1 := by omega
      have y0 := store_two x4 (.int .i64 p') (.int .i64 q')
      have y1 := set_otherE y0 n45 (.int .i64 p) (.int .i64 q)
      have z1 := store_two (set_otherE x5 n54 (.int .i64 p') (.int .i64 q')) (.int .i64 p) (.int .i64 q)
      have HBB := Lib.hid (below_twoE (g := w.heap.size + 1 + 1) (below_twoE (g := w.heap.size + 1) HB.out (by omega) (.int .i64 p') (.int .i64 q')) (by omega) (.int .i64 p) (.int .i64 q))
      clear X4 X5 XS XB XM HB
      go_region
      have e00 := box_cell y1 0 _ rfl
      have e01 := box_cell y1 1 _ rfl
      have e10 := box_cell z1 0 _ rfl
      have e11 := box_cell z1 1 _ rfl
      go_wp2
      exact bodyPost_ret (v := .tuple #[.agg #[.int .i64 p', .int .i64 q'], .agg #[.int .i64 p, .int .i64 q], .bool true]) (by simp [results, Try.results20, go_sem, e00, e01, e10, e11]) rfl ⟨rfl, HBB.out.drew⟩
end Go.Proofs.Ytgfihfmlofgopaa
