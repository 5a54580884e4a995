/- Several small texts in one: LwQ, RfP. -/
import Derived.Test.YtfanpbfmnckmnaaGreatTbsA
import Derived.Test.YtfanpbfmnckmnaaGreatYm
namespace Go.Proofs.YtfanpbfmnckmnaaGreat

section
open Go.RowKit

set_option maxRecDepth 100000 in
set_option maxHeartbeats 2000000 in
theorem qInts_any (A B : Option Addr) (n c m d : Nat) (xs ys : List Int) (w : World) (hx : IntR w A n xs) (hy : IntR w B m ys) :
    Calls Tryz.prog 36 #[.slice A n c, .slice B m d] w fun e w' => e = .returned (.bool (xs == ys)) ∧ Below w.heap.size w w' := by
  have hn := hx.bd
  have hm := hy.bd
  have hl1 := Lib.hid hx.len
  have hl2 := Lib.hid hy.len
  by_cases hnm : n = m
  rotate_left
  · have R := Lib.hid (show false = (xs == ys) by symm; rw [beq_eq_false_iff_ne]; intro h; apply hnm; rw [← hl1.out, ← hl2.out, h])
    have hq : ((n : Int) != m) = true := by simpa using fun h => hnm (by exact_mod_cast h)
    clear hnm hx hy
    go_enter Tryz.func36, Tryz.ntmps36
    go_wp2
    go_ret
    exact ⟨ret_bool R.out, Below.refl _ _⟩
  subst hnm
  go_enter Tryz.func36, Tryz.ntmps36
  go_wp2
  go_loopw [13] (fun i wr => ∃ (k q : Nat), k ≤ n ∧ i = .int .i64 k ∧ Hid (∀ t, t < k → xs[t]?.getD 0 = ys[t]?.getD 0) ∧ wr = w.drewN q) (fun i _ => n - (intOf i).toNat)
  case atStart => exact ⟨0, 0, Nat.zero_le _, rfl, Lib.hid (fun t ht => absurd ht (by omega)), rfl⟩
  case round =>
    obtain ⟨k, q, hk, rfl, he, rfl⟩ := hrel
    by_cases hlt : k < n
    · obtain ⟨ad, rfl, hc⟩ := hx.i.at_ hlt
      obtain ⟨ad', rfl, hc'⟩ := hy.i.at_ hlt
      have HN := Lib.hid (fun (h : ¬ xs[k]?.getD 0 = ys[k]?.getD 0) => show false = (xs == ys) by symm; rw [beq_eq_false_iff_ne]; intro h9; exact h (by rw [h9]))
      have HA := Lib.hid (fun h => all_succ (p := fun t => xs[t]?.getD 0 = ys[t]?.getD 0) he.out h)
      clear hx hy he
      generalize xs[k]?.getD 0 = x at *
      generalize ys[k]?.getD 0 = y at *
      by_cases hxy : x = y
      · have HA2 := Lib.hid (HA.out hxy)
        clear HA HN
        subst hxy
        go_wp2
        go_quiet (fail)
        go_wp2
        go_roundw
        case rel => exact ⟨k + 1, _, by omega, by go_num, HA2, rfl⟩
        case measure => simp [intOf]; omega
      · have R := Lib.hid (HN.out hxy)
        have hq : (x != y) = true := by simpa using hxy
        clear HA HN hxy
        go_wp2
        go_quiet (fail)
        go_wp2
        go_ret
        exact ⟨ret_bool R.out, below_drewN (below_drewN (Below.refl _ _) _) _⟩
    · obtain rfl : k = n := by omega
      have R := Lib.hid (show true = (xs == ys) by
        symm
        rw [beq_iff_eq]
        apply List.ext_getElem?
        intro t
        rcases Nat.lt_or_ge t k with h | h
        · have h1 := he.out t h
          rw [List.getElem?_eq_getElem (by rw [hl1.out]; exact h), List.getElem?_eq_getElem (by rw [hl2.out]; exact h)] at h1 ⊢
          rw [Option.getD_some, Option.getD_some] at h1
          rw [h1]
        · rw [List.getElem?_eq_none (by rw [hl1.out]; exact h), List.getElem?_eq_none (by rw [hl2.out]; exact h)])
      clear hx hy
      go_wp2
      go_ret
      exact ⟨ret_bool R.out, below_drewN (Below.refl _ _) q⟩

set_option maxRecDepth 100000 in
set_option maxHeartbeats 2000000 in
theorem qTable_any (V U V' U' : Option Addr) (m d k e m' d' k' e' : Nat) (t u : TabD) (w : World) (ht : TabR w V m U k t) (hu : TabR w V' m' U' k' u) :
    Calls Tryz.prog 37 #[.agg #[.int .i64 t.lv, .slice V m d, .slice U k e, .int .i64 t.sum], .agg #[.int .i64 u.lv, .slice V' m' d', .slice U' k' e', .int .i64 u.sum]] w fun e w' => e = .returned (.bool (sameT t u)) ∧ Below w.heap.size w w' := by
  obtain ⟨b0, x2, x3⟩ := box_two w #[.int .i64 t.lv, .slice V m d, .slice U k e, .int .i64 t.sum] #[.int .i64 u.lv, .slice V' m' d', .slice U' k' e', .int .i64 u.sum] 56 56
  replace ht := ht.below b0
  replace hu := hu.below b0
  have HB := Lib.hid b0
  have X2 := Lib.hid x2
  have X3 := Lib.hid x3
  have hS : sameT t u = ((t.lv == u.lv) && ((t.sum == u.sum) && ((t.vars == u.vars) && (t.wh == u.wh)))) := rfl
  have l20 := lt_of_block x2
  have l30 := lt_of_block x3
  have c20 := bxc x2 0 _ rfl
  have c21 := bxc x2 1 _ rfl
  have c22 := bxc x2 2 _ rfl
  have c23 := bxc x2 3 _ rfl
  have c30 := bxc x3 0 _ rfl
  have c31 := bxc x3 1 _ rfl
  have c32 := bxc x3 2 _ rfl
  have c33 := bxc x3 3 _ rfl
  clear x2 x3 b0
  cases hl : (t.lv == u.lv)
  · have R := Lib.hid (show false = sameT t u by rw [hS, hl]; simp)
    have ql := hl
    replace hl := Lib.hid hl
    clear hS
    go_enter Tryz.func37, Tryz.ntmps37
    go_wp2
    go_ret
    exact ⟨ret_bool R.out, HB.out⟩
  have ql := hl
  replace hl := Lib.hid hl
  cases hv : (t.vars == u.vars)
  · have R := Lib.hid (show false = sameT t u by rw [hS, hl.out, hv]; simp)
    replace hv := Lib.hid hv
    clear hS
    go_enter Tryz.func37, Tryz.ntmps37
    go_wp2_with fail
    clear c20 c21 c22 c23 c30 c31 c32 c33 l20 l30
    generalize (w.alloc (.cells #[.int .i64 t.lv, .slice V m d, .slice U k e, .int .i64 t.sum] 56)).alloc (.cells #[.int .i64 u.lv, .slice V' m' d', .slice U' k' e', .int .i64 u.sum] 56) = w0 at *
    refine (qInts_any _ _ _ _ _ _ t.vars u.vars _ ht.v hu.v).mono ?_
    rintro e w6 ⟨rfl, b6⟩
    rw [hv.out]
    replace ht := ht.below b6
    replace hu := hu.below b6
    replace X2 := Lib.hid (bxb X2.out b6)
    replace X3 := Lib.hid (bxb X3.out b6)
    replace HB := Lib.hid (HB.out.trans (b6.mono HB.out.size))
    clear b6
    have l20 := lt_of_block X2.out
    have l30 := lt_of_block X3.out
    have c20 := bxc X2.out 0 _ rfl
    have c21 := bxc X2.out 1 _ rfl
    have c22 := bxc X2.out 2 _ rfl
    have c23 := bxc X2.out 3 _ rfl
    have c30 := bxc X3.out 0 _ rfl
    have c31 := bxc X3.out 1 _ rfl
    have c32 := bxc X3.out 2 _ rfl
    have c33 := bxc X3.out 3 _ rfl
    go_wp2
    go_ret
    exact ⟨ret_bool R.out, HB.out⟩
  replace hv := Lib.hid hv
  cases hw : (t.wh == u.wh)
  · have R := Lib.hid (show false = sameT t u by rw [hS, hl.out, hv.out, hw]; simp)
    replace hw := Lib.hid hw
    clear hS
    go_enter Tryz.func37, Tryz.ntmps37
    go_wp2_with fail
    clear c20 c21 c22 c23 c30 c31 c32 c33 l20 l30
    generalize (w.alloc (.cells #[.int .i64 t.lv, .slice V m d, .slice U k e, .int .i64 t.sum] 56)).alloc (.cells #[.int .i64 u.lv, .slice V' m' d', .slice U' k' e', .int .i64 u.sum] 56) = w0 at *
    refine (qInts_any _ _ _ _ _ _ t.vars u.vars _ ht.v hu.v).mono ?_
    rintro e w6 ⟨rfl, b6⟩
    rw [hv.out]
    replace ht := ht.below b6
    replace hu := hu.below b6
    replace X2 := Lib.hid (bxb X2.out b6)
    replace X3 := Lib.hid (bxb X3.out b6)
    replace HB := Lib.hid (HB.out.trans (b6.mono HB.out.size))
    clear b6
    have l20 := lt_of_block X2.out
    have l30 := lt_of_block X3.out
    have c20 := bxc X2.out 0 _ rfl
    have c21 := bxc X2.out 1 _ rfl
    have c22 := bxc X2.out 2 _ rfl
    have c23 := bxc X2.out 3 _ rfl
    have c30 := bxc X3.out 0 _ rfl
    have c31 := bxc X3.out 1 _ rfl
    have c32 := bxc X3.out 2 _ rfl
    have c33 := bxc X3.out 3 _ rfl
    go_wp2_with fail
    clear c20 c21 c22 c23 c30 c31 c32 c33 l20 l30
    refine (qInts_any _ _ _ _ _ _ t.wh u.wh _ ht.u hu.u).mono ?_
    rintro e w7 ⟨rfl, b7⟩
    rw [hw.out]
    replace ht := ht.below b7
    replace hu := hu.below b7
    replace X2 := Lib.hid (bxb X2.out b7)
    replace X3 := Lib.hid (bxb X3.out b7)
    replace HB := Lib.hid (HB.out.trans (b7.mono HB.out.size))
    clear b7
    have l20 := lt_of_block X2.out
    have l30 := lt_of_block X3.out
    have c20 := bxc X2.out 0 _ rfl
    have c21 := bxc X2.out 1 _ rfl
    have c22 := bxc X2.out 2 _ rfl
    have c23 := bxc X2.out 3 _ rfl
    have c30 := bxc X3.out 0 _ rfl
    have c31 := bxc X3.out 1 _ rfl
    have c32 := bxc X3.out 2 _ rfl
    have c33 := bxc X3.out 3 _ rfl
    go_wp2
    go_ret
    exact ⟨ret_bool R.out, HB.out⟩
  replace hw := Lib.hid hw
  cases hs : (t.sum == u.sum)
  · have R := Lib.hid (show false = sameT t u by rw [hS, hl.out, hv.out, hw.out, hs]; simp)
    have qs := hs
    replace hs := Lib.hid hs
    clear hS
    go_enter Tryz.func37, Tryz.ntmps37
    go_wp2_with fail
    clear c20 c21 c22 c23 c30 c31 c32 c33 l20 l30
    generalize (w.alloc (.cells #[.int .i64 t.lv, .slice V m d, .slice U k e, .int .i64 t.sum] 56)).alloc (.cells #[.int .i64 u.lv, .slice V' m' d', .slice U' k' e', .int .i64 u.sum] 56) = w0 at *
    refine (qInts_any _ _ _ _ _ _ t.vars u.vars _ ht.v hu.v).mono ?_
    rintro e w6 ⟨rfl, b6⟩
    rw [hv.out]
    replace ht := ht.below b6
    replace hu := hu.below b6
    replace X2 := Lib.hid (bxb X2.out b6)
    replace X3 := Lib.hid (bxb X3.out b6)
    replace HB := Lib.hid (HB.out.trans (b6.mono HB.out.size))
    clear b6
    have l20 := lt_of_block X2.out
    have l30 := lt_of_block X3.out
    have c20 := bxc X2.out 0 _ rfl
    have c21 := bxc X2.out 1 _ rfl
    have c22 := bxc X2.out 2 _ rfl
    have c23 := bxc X2.out 3 _ rfl
    have c30 := bxc X3.out 0 _ rfl
    have c31 := bxc X3.out 1 _ rfl
    have c32 := bxc X3.out 2 _ rfl
    have c33 := bxc X3.out 3 _ rfl
    go_wp2_with fail
    clear c20 c21 c22 c23 c30 c31 c32 c33 l20 l30
    refine (qInts_any _ _ _ _ _ _ t.wh u.wh _ ht.u hu.u).mono ?_
    rintro e w7 ⟨rfl, b7⟩
    rw [hw.out]
    replace ht := ht.below b7
    replace hu := hu.below b7
    replace X2 := Lib.hid (bxb X2.out b7)
    replace X3 := Lib.hid (bxb X3.out b7)
    replace HB := Lib.hid (HB.out.trans (b7.mono HB.out.size))
    clear b7
    have l20 := lt_of_block X2.out
    have l30 := lt_of_block X3.out
    have c20 := bxc X2.out 0 _ rfl
    have c21 := bxc X2.out 1 _ rfl
    have c22 := bxc X2.out 2 _ rfl
    have c23 := bxc X2.out 3 _ rfl
    have c30 := bxc X3.out 0 _ rfl
    have c31 := bxc X3.out 1 _ rfl
    have c32 := bxc X3.out 2 _ rfl
    have c33 := bxc X3.out 3 _ rfl
    go_wp2
    go_ret
    exact ⟨ret_bool R.out, HB.out⟩
  have qs := hs
  replace hs := Lib.hid hs
  have R := Lib.hid (show true = sameT t u by rw [hS, hl.out, hv.out, hw.out, hs.out]; rfl)
  clear hS
  go_enter Tryz.func37, Tryz.ntmps37
  go_wp2_with fail
  clear c20 c21 c22 c23 c30 c31 c32 c33 l20 l30
  generalize (w.alloc (.cells #[.int .i64 t.lv, .slice V m d, .slice U k e, .int .i64 t.sum] 56)).alloc (.cells #[.int .i64 u.lv, .slice V' m' d', .slice U' k' e', .int .i64 u.sum] 56) = w0 at *
  refine (qInts_any _ _ _ _ _ _ t.vars u.vars _ ht.v hu.v).mono ?_
  rintro e w6 ⟨rfl, b6⟩
  rw [hv.out]
  replace ht := ht.below b6
  replace hu := hu.below b6
  replace X2 := Lib.hid (bxb X2.out b6)
  replace X3 := Lib.hid (bxb X3.out b6)
  replace HB := Lib.hid (HB.out.trans (b6.mono HB.out.size))
  clear b6
  have l20 := lt_of_block X2.out
  have l30 := lt_of_block X3.out
  have c20 := bxc X2.out 0 _ rfl
  have c21 := bxc X2.out 1 _ rfl
  have c22 := bxc X2.out 2 _ rfl
  have c23 := bxc X2.out 3 _ rfl
  have c30 := bxc X3.out 0 _ rfl
  have c31 := bxc X3.out 1 _ rfl
  have c32 := bxc X3.out 2 _ rfl
  have c33 := bxc X3.out 3 _ rfl
  go_wp2_with fail
  clear c20 c21 c22 c23 c30 c31 c32 c33 l20 l30
  refine (qInts_any _ _ _ _ _ _ t.wh u.wh _ ht.u hu.u).mono ?_
  rintro e w7 ⟨rfl, b7⟩
  rw [hw.out]
  replace ht := ht.below b7
  replace hu := hu.below b7
  replace X2 := Lib.hid (bxb X2.out b7)
  replace X3 := Lib.hid (bxb X3.out b7)
  replace HB := Lib.hid (HB.out.trans (b7.mono HB.out.size))
  clear b7
  have l20 := lt_of_block X2.out
  have l30 := lt_of_block X3.out
  have c20 := bxc X2.out 0 _ rfl
  have c21 := bxc X2.out 1 _ rfl
  have c22 := bxc X2.out 2 _ rfl
  have c23 := bxc X2.out 3 _ rfl
  have c30 := bxc X3.out 0 _ rfl
  have c31 := bxc X3.out 1 _ rfl
  have c32 := bxc X3.out 2 _ rfl
  have c33 := bxc X3.out 3 _ rfl
  go_wp2
  go_ret
  exact ⟨ret_bool R.out, HB.out⟩
end

section
open Go.RowKit
end
end Go.Proofs.YtfanpbfmnckmnaaGreat
