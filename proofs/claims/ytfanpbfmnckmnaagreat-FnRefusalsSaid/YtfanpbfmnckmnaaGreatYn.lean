/- Several small texts in one: LwQ, RfP. -/
import Derived.Test.YtfanpbfmnckmnaaGreatTbsA
import Derived.Test.YtfanpbfmnckmnaaGreatYm
namespace Go.Proofs.YtfanpbfmnckmnaaGreat

section
open Go.RowKit

set_option maxRecDepth 100000 in
set_option maxHeartbeats 2000000 in
theorem qInts_any (A B : Option Addr) (n c m d : Nat) (xs ys : List Int) (w : World) (hx : IntR w A n xs) (hy : IntR w B m ys) :
    Calls Tryz.prog 36 #[.slice A n c, .slice B m d] w fun e w' => e = .returned (.bool (xs == ys)) ∧ Below w.heap.size w w' := by
  have hn := hx.bd
  have hm := hy.bd
  have hl1 := Lib.hid hx.len
  have hl2 := Lib.hid hy.len
  by_cases hnm : n = m
  rotate_left
  · have R := Lib.hid (show false = (xs == ys) by symm; rw [beq_eq_false_iff_ne]; intro h; apply hnm; rw [← hl1.out, ← hl2.out, h])
    have hq : ((n : Int) != m) = true := by simpa using fun h => hnm (by exact_mod_cast h)
    clear hnm hx hy
    go_enter Tryz.func36, Tryz.ntmps36
    go_wp2
    go_ret
    exact ⟨ret_bool R.out, Below.refl _ _⟩
  subst hnm
  go_enter Tryz.func36, Tryz.ntmps36
  go_wp2
  go_loopw [13] (fun i wr => ∃ (k q : Nat), k ≤ n ∧ i = .int .i64 k ∧ Hid (∀ t, t < k → xs[t]?.getD 0 = ys[t]?.getD 0) ∧ wr = w.drewN q) (fun i _ => n - (intOf i).toNat)
  case atStart => exact ⟨0, 0, Nat.zero_le _, rfl, Lib.hid (fun t ht => absurd ht (by omega)), rfl⟩
  case round =>
    obtain ⟨k, q, hk, rfl, he, rfl⟩ := hrel
    by_cases hlt : k < n
    · obtain ⟨ad, rfl, hc⟩ := hx.i.at_ hlt
      obtain ⟨ad', rfl, hc'⟩ := hy.i.at_ hlt
      have HN := Lib.hid (fun (h : ¬ xs[k]?.getD 0 = ys[k]?.getD 0) => show false = (xs == ys) by symm; rw [beq_eq_false_iff_ne]; intro h9; exact h (by rw [h9]))
      have HA := Lib.hid (fun h => all_succ (p := fun t => xs[t]?.getD 0 = ys[t]?.getD 0) he.out h)
      clear hx hy he
      generalize xs[k]?.getD 0 = x at *
      generalize ys[k]?.getD 0 = y at *
      by_cases hxy : x = y
      · have HA2 := Lib.hid (HA.out hxy)
        clear HA HN
        subst hxy
        go_wp2
        go_quiet (fail)
        go_wp2
        go_roundw
        case rel => exact ⟨k + 1, _, by omega, by go_num, HA2, rfl⟩
        case measure => simp [intOf]; omega
      · have R := Lib.hid (HN.out hxy)
        have hq : (x != y) = true := by simpa using hxy
        clear HA HN hxy
        go_wp2
        go_quiet (fail)
        go_wp2
        go_ret
        exact ⟨ret_bool R.out, below_drewN (below_drewN (Below.refl _ _) _) _⟩
    · obtain rfl : k = n := by omega
      have R := Lib.hid (show true = (xs == ys) by
        symm
        rw [beq_iff_eq]
        apply List.ext_getElem?
        intro t
        rcases Nat.lt_or_ge t k with h | h
        · have h1 := he.out t h
          rw [List.getElem?_eq_getElem (by rw [hl1.out]; exact h), List.getElem?_eq_getElem (by rw [hl2.out]; exact h)] at h1 ⊢
          rw [Option.getD_some, Option.getD_some] at h1
          rw [h1]
        · rw [List.getElem?_eq_none (by rw [hl1.out]; exact h), List.getElem?_eq_none (by rw [hl2.out]; exact h)])
      clear hx hy
      go_wp2
      go_ret
      exact ⟨ret_bool R.out, below_drewN (Below.refl _ _) q⟩

set_option maxRecDepth 100000 in
set_option maxHeartbeats 2000000 in
theorem qTable_any (V U V' U' : Option Addr) (m d k e m' d' k' e' : Nat) (t u : TabD) (w : World) (ht : TabR w V m U k t) (hu : TabR w V' m' U' k' u) :
    Calls Tryz.prog 37 #[.agg #[.int .i64 t.lv, .slice V m d, .slice U k e, .int .i64 t.sum], .agg #[.int .i64 u.lv, .slice V' m' d', .slice U' k' e', .int .i64 u.sum]] w fun e w' => e = .returned (.bool (sameT t u)) ∧ Below w.heap.size w w' := by
  obtain ⟨b0, x2, x3⟩ := box_two w #[.int .i64 t.lv, .slice V m d, .slice U k e, .int .i64 t.sum] #[.int .i64 u.lv, .slice V' m' d', .slice U' k' e', .int .i64 u.sum] 56 56
  replace ht := ht.below b0
  replace hu := hu.below b0
  have HB := Lib.hid b0
  have X2 := Lib.hid x2
  have X3 := Lib.hid x3
  have hS : sameT t u = ((t.lv == u.lv) && ((t.sum == u.sum) && ((t.vars == u.vars) && (t.wh == u.wh)))) := rfl
  have l20 := lt_of_block x2
  have l30 := lt_of_block x3
  have c20 := box_cell x2 0 _ rfl
  have c21 := box_cell x2 1 _ rfl
  have c22 := box_cell x2 2 _ rfl
  have c23 := box_cell x2 3 _ rfl
  have c30 := box_cell x3 0 _ rfl
  have c31 := box_cell x3 1 _ rfl
  have c32 := box_cell x3 2 _ rfl
  have c33 := box_cell x3 3 _ rfl
  clear x2 x3 b0
  cases hl : (t.lv == u.lv)
  · have R := Lib.hid (show false = sameT t u by rw [hS, hl]; simp)
    have ql := hl
    replace hl := Lib.hid hl
    clear hS
    go_enter Tryz.func37, Tryz.ntmps37
    go_wp2
    go_ret
    exact ⟨ret_bool R.out, HB.out⟩
  have ql := hl
  replace hl := Lib.hid hl
  cases hv : (t.vars == u.vars)
  · have R := Lib.hid (show false = sameT t u by rw [hS, hl.out, hv]; simp)
    replace hv := Lib.hid hv
    clear hS
    go_enter Tryz.func37, Tryz.ntmps37
    go_wp2_with fail
    clear c20 c21 c22 c23 c30 c31 c32 c33 l20 l30
    generalize (w.alloc (.cells #[.int .i64 t.lv, .slice V m d, .slice U k e, .int .i64 t.sum] 56)).alloc (.cells #[.int .i64 u.lv, .slice V' m' d', .slice U' k' e', .int .i64 u.sum] 56) = w0 at *
    refine (qInts_any _ _ _ _ _ _ t.vars u.vars _ ht.v hu.v).mono ?_
    rintro e w6 ⟨rfl, b6⟩
    rw [hv.out]
    replace ht := ht.below b6
    replace hu := hu.below b6
    replace X2 := Lib.hid (box_below X2.out b6)
    replace X3 := Lib.hid (box_below X3.out b6)
    replace HB := Lib.hid (HB.out.trans (b6.mono HB.out.size))
    clear b6
    have l20 := lt_of_block X2.out
    have l30 := lt_of_block X3.out
    have c20 := box_cell X2.out 0 _ rfl
    have c21 := box_cell X2.out 1 _ rfl
    have c22 := box_cell X2.out 2 _ rfl
    have c23 := box_cell X2.out 3 _ rfl
    have c30 := box_cell X3.out 0 _ rfl
    have c31 := box_cell X3.out 1 _ rfl
    have c32 := box_cell X3.out 2 _ rfl
    have c33 := box_cell X3.out 3 _ rfl
    go_wp2
    go_ret
    exact ⟨ret_bool R.out, HB.out⟩
  replace hv := Lib.hid hv
  cases hw : (t.wh == u.wh)
  · have R := Lib.hid (show false = sameT t u by rw [hS, hl.out, hv.out, hw]; simp)
    replace hw := Lib.hid hw
    clear hS
    go_enter Tryz.func37, Tryz.ntmps37
    go_wp2_with fail
    clear c20 c21 c22 c23 c30 c31 c32 c33 l20 l30
    generalize (w.alloc (.cells #[.int .i64 t.lv, .slice V m d, .slice U k e, .int .i64 t.sum] 56)).alloc (.cells #[.int .i64 u.lv, .slice V' m' d', .slice U' k' e', .int .i64 u.sum] 56) = w0 at *
    refine (qInts_any _ _ _ _ _ _ t.vars u.vars _ ht.v hu.v).mono ?_
    rintro e w6 ⟨rfl, b6⟩
    rw [hv.out]
    replace ht := ht.below b6
    replace hu := hu.below b6
    replace X2 := Lib.hid (box_below X2.out b6)
    replace X3 := Lib.hid (box_below X3.out b6)
    replace HB := Lib.hid (HB.out.trans (b6.mono HB.out.size))
    clear b6
    have l20 := lt_of_block X2.out
    have l30 := lt_of_block X3.out
    have c20 := box_cell X2.out 0 _ rfl
    have c21 := box_cell X2.out 1 _ rfl
    have c22 := box_cell X2.out 2 _ rfl
    have c23 := box_cell X2.out 3 _ rfl
    have c30 := box_cell X3.out 0 _ rfl
    have c31 := box_cell X3.out 1 _ rfl
    have c32 := box_cell X3.out 2 _ rfl
    have c33 := box_cell X3.out 3 _ rfl
    go_wp2_with fail
    clear c20 c21 c22 c23 c30 c31 c32 c33 l20 l30
    refine (qInts_any _ _ _ _ _ _ t.wh u.wh _ ht.u hu.u).mono ?_
    rintro e w7 ⟨rfl, b7⟩
    rw [hw.out]
    replace ht := ht.below b7
    replace hu := hu.below b7
    replace X2 := Lib.hid (box_below X2.out b7)
    replace X3 := Lib.hid (box_below X3.out b7)
    replace HB := Lib.hid (HB.out.trans (b7.mono HB.out.size))
    clear b7
    have l20 := lt_of_block X2.out
    have l30 := lt_of_block X3.out
    have c20 := box_cell X2.out 0 _ rfl
    have c21 := box_cell X2.out 1 _ rfl
    have c22 := box_cell X2.out 2 _ rfl
    have c23 := box_cell X2.out 3 _ rfl
    have c30 := box_cell X3.out 0 _ rfl
    have c31 := box_cell X3.out 1 _ rfl
    have c32 := box_cell X3.out 2 _ rfl
    have c33 := box_cell X3.out 3 _ rfl
    go_wp2
    go_ret
    exact ⟨ret_bool R.out, HB.out⟩
  replace hw := Lib.hid hw
  cases hs : (t.sum == u.sum)
  · have R := Lib.hid (show false = sameT t u by rw [hS, hl.out, hv.out, hw.out, hs]; simp)
    have qs := hs
    replace hs := Lib.hid hs
    clear hS
    go_enter Tryz.func37, Tryz.ntmps37
    go_wp2_with fail
    clear c20 c21 c22 c23 c30 c31 c32 c33 l20 l30
    generalize (w.alloc (.cells #[.int .i64 t.lv, .slice V m d, .slice U k e, .int .i64 t.sum] 56)).alloc (.cells #[.int .i64 u.lv, .slice V' m' d', .slice U' k' e', .int .i64 u.sum] 56) = w0 at *
    refine (qInts_any _ _ _ _ _ _ t.vars u.vars _ ht.v hu.v).mono ?_
    rintro e w6 ⟨rfl, b6⟩
    rw [hv.out]
    replace ht := ht.below b6
    replace hu := hu.below b6
    replace X2 := Lib.hid (box_below X2.out b6)
    replace X3 := Lib.hid (box_below X3.out b6)
    replace HB := Lib.hid (HB.out.trans (b6.mono HB.out.size))
    clear b6
    have l20 := lt_of_block X2.out
    have l30 := lt_of_block X3.out
    have c20 := box_cell X2.out 0 _ rfl
    have c21 := box_cell X2.out 1 _ rfl
    have c22 := box_cell X2.out 2 _ rfl
    have c23 := box_cell X2.out 3 _ rfl
    have c30 := box_cell X3.out 0 _ rfl
    have c31 := box_cell X3.out 1 _ rfl
    have c32 := box_cell X3.out 2 _ rfl
    have c33 := box_cell X3.out 3 _ rfl
    go_wp2_with fail
    clear c20 c21 c22 c23 c30 c31 c32 c33 l20 l30
    refine (qInts_any _ _ _ _ _ _ t.wh u.wh _ ht.u hu.u).mono ?_
    rintro e w7 ⟨rfl, b7⟩
    rw [hw.out]
    replace ht := ht.below b7
    replace hu := hu.below b7
    replace X2 := Lib.hid (box_below X2.out b7)
    replace X3 := Lib.hid (box_below X3.out b7)
    replace HB := Lib.hid (HB.out.trans (b7.mono HB.out.size))
    clear b7
    have l20 := lt_of_block X2.out
    have l30 := lt_of_block X3.out
    have c20 := box_cell X2.out 0 _ rfl
    have c21 := box_cell X2.out 1 _ rfl
    have c22 := box_cell X2.out 2 _ rfl
    have c23 := box_cell X2.out 3 _ rfl
    have c30 := box_cell X3.out 0 _ rfl
    have c31 := box_cell X3.out 1 _ rfl
    have c32 := box_cell X3.out 2 _ rfl
    have c33 := box_cell X3.out 3 _ rfl
    go_wp2
    go_ret
    exact ⟨ret_bool R.out, HB.out⟩
  have qs := hs
  replace hs := Lib.hid hs
  have R := Lib.hid (show true = sameT t u by rw [hS, hl.out, hv.out, hw.out, hs.out]; rfl)
  clear hS
  go_enter Tryz.func37, Tryz.ntmps37
  go_wp2_with fail
  clear c20 c21 c22 c23 c30 c31 c32 c33 l20 l30
  generalize (w.alloc (.cells #[.int .i64 t.lv, .slice V m d, .slice U k e, .int .i64 t.sum] 56)).alloc (.cells #[.int .i64 u.lv, .slice V' m' d', .slice U' k' e', .int .i64 u.sum] 56) = w0 at *
  refine (qInts_any _ _ _ _ _ _ t.vars u.vars _ ht.v hu.v).mono ?_
  rintro e w6 ⟨rfl, b6⟩
  rw [hv.out]
  replace ht := ht.below b6
  replace hu := hu.below b6
  replace X2 := Lib.hid (box_below X2.out b6)
  replace X3 := Lib.hid (box_below X3.out b6)
  replace HB := Lib.hid (HB.out.trans (b6.mono HB.out.size))
  clear b6
  have l20 := lt_of_block X2.out
  have l30 := lt_of_block X3.out
  have c20 := box_cell X2.out 0 _ rfl
  have c21 := box_cell X2.out 1 _ rfl
  have c22 := box_cell X2.out 2 _ rfl
  have c23 := box_cell X2.out 3 _ rfl
  have c30 := box_cell X3.out 0 _ rfl
  have c31 := box_cell X3.out 1 _ rfl
  have c32 := box_cell X3.out 2 _ rfl
  have c33 := box_cell X3.out 3 _ rfl
  go_wp2_with fail
  clear c20 c21 c22 c23 c30 c31 c32 c33 l20 l30
  refine (qInts_any _ _ _ _ _ _ t.wh u.wh _ ht.u hu.u).mono ?_
  rintro e w7 ⟨rfl, b7⟩
  rw [hw.out]
  replace ht := ht.below b7
  replace hu := hu.below b7
  replace X2 := Lib.hid (box_below X2.out b7)
  replace X3 := Lib.hid (box_below X3.out b7)
  replace HB := Lib.hid (HB.out.trans (b7.mono HB.out.size))
  clear b7
  have l20 := lt_of_block X2.out
  have l30 := lt_of_block X3.out
  have c20 := box_cell X2.out 0 _ rfl
  have c21 := box_cell X2.out 1 _ rfl
  have c22 := box_cell X2.out 2 _ rfl
  have c23 := box_cell X2.out 3 _ rfl
  have c30 := box_cell X3.out 0 _ rfl
  have c31 := box_cell X3.out 1 _ rfl
  have c32 := box_cell X3.out 2 _ rfl
  have c33 := box_cell X3.out 3 _ rfl
  go_wp2
  go_ret
  exact ⟨ret_bool R.out, HB.out⟩
end

section
open Go.RowKit

/-- Whether one of the first tables is the same. -/
def knV (ts : List TabD) (t : TabD) : Nat → Bool
  | 0 => false
  | k + 1 => knV ts t k || sameT (tX ts k) t
theorem knV_yes {ts : List TabD} {t : TabD} {j : Nat} (h : sameT (tX ts j) t = true) : ∀ k, j < k → knV ts t k = true
  | 0, hj => absurd hj (by omega)
  | k + 1, hj => by
    rw [knV]
    by_cases e : j = k
    · rw [← e, h]; simp
    · rw [knV_yes h k (by omega)]; rfl
theorem knV_fnd {ts : List TabD} {t : TabD} {q : Nat} (hq : ts.length = q) (h : knV ts t q = false) : fndT ts t < 0 := by
  subst hq
  unfold fndT
  by_cases h1 : fndN ts t < ts.length
  · exfalso
    have h2 : sameT ts[fndN ts t] t = true := List.findIdx_getElem (w := h1)
    have h3 := knV_yes (ts := ts) (t := t) (j := fndN ts t) (by unfold tX; rw [List.getElem?_eq_getElem h1]; exact h2) ts.length h1
    rw [h3] at h; cases h
  · rw [if_neg h1]; omega
theorem gapB_sv {D : SvD} {t : TabD} (h : gapB D t = true) : svB D = true := by
  unfold gapB at h
  rw [Bool.and_eq_true] at h
  exact h.1
/-- What is answered does not tell a small difference. -/
theorem refused {D : SvD} {t : TabD} (h : gapB D t = true) (hc : qcV D t = 0) (hk : fndT D.asked t < 0) (hs : t.sum < 0) (h0 : 0 < gapL D t) (h1 : gapL D t < D.floor) : False := by
  have hs1 := gapB_sv h
  unfold gapL at h0 h1
  rw [if_pos h] at h0 h1
  unfold qcV at hc
  rw [if_pos hs1] at hc
  unfold codeV at hc
  by_cases e1 : tabB D.par D.vs t = false
  · rw [if_pos e1] at hc; omega
  rw [if_neg e1] at hc
  by_cases e2 : fndT D.plan t < 0
  · rw [if_pos e2] at hc; omega
  rw [if_neg e2, if_neg (Int.not_le.2 hk)] at hc
  by_cases e3 : fitsB D.cost D.bud (D.asked.length + 1) = false
  · rw [if_pos e3] at hc; omega
  rw [if_neg e3, if_neg (Int.not_le.2 hs)] at hc
  by_cases e4 : fewB' (fewO (D.tbl t) (D.tbl t).length) D.floor = true
  · rw [if_pos e4] at hc; omega
  rw [if_neg e4, if_pos (by unfold fewB'; rw [decide_eq_true h0, decide_eq_true h1]; rfl)] at hc
  omega
/-- Whether a number is among the first ones. -/
def metV (l : List Int) (v : Int) : Nat → Bool
  | 0 => false
  | k + 1 => metV l v k || (v == l[k]?.getD 0)
theorem metV_mem {l : List Int} {v : Int} : ∀ k, k ≤ l.length → (metV l v k = true ↔ v ∈ l.take k)
  | 0, _ => by simp [metV]
  | k + 1, h => by
    have h1 : k < l.length := h
    rw [metV, Bool.or_eq_true, metV_mem k (by omega), List.take_add_one, List.getElem?_eq_getElem h1]
    simp only [Option.getD_some, beq_iff_eq, Option.toList_some, List.mem_append, List.mem_singleton]
theorem mem_linkK {p : Nat → Bool} {k j : Nat} : ((j : Int) ∈ linkK p k) ↔ (j < k ∧ p j = true) := by
  unfold linkK
  rw [List.mem_map]
  constructor
  · rintro ⟨a, h, e⟩
    obtain rfl : a = j := by omega
    simpa using h
  · intro h
    exact ⟨j, by simpa using h, rfl⟩
theorem met_open {D : SvD} {j p : Nat} (h : svB D = true) (hp : D.plan.length = p) (hj : j < p) : metV (opV D) (j : Int) (opV D).length = (qcV D (tX D.plan j) == 0) := by
  rw [Bool.eq_iff_iff, metV_mem _ (Nat.le_refl _), List.take_length, opV_yes h hp, mem_linkK]
  unfold opP qcV
  rw [if_pos h]
  exact ⟨fun h => h.2, fun h => ⟨hj, h⟩⟩
end
end Go.Proofs.YtfanpbfmnckmnaaGreat
