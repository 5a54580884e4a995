/- Lists of tables: equality, finding, differing, plans; printed by gts.py. -/
import Derived.Test.YtfanpbfmnckmnaaGreatYf
import Derived.Test.YtfanpbfmnckmnaaGreatSrvP
namespace Go.Proofs.YtfanpbfmnckmnaaGreat
open Go.RowKit

/-- What a list of tables reads as. -/
structure TabsR (w : World) (A : Option Addr) (n : Nat) (ts : List TabD) : Prop where
  len : ts.length = n
  bd : n ≤ 1099511627776
  at0 : 0 < n → ∃ ad, A = some ad ∧ ∀ j, j < n → ∃ V m d U k e, w.cell? (ad.add (j * 4)) = some (.int .i64 (tX ts j).lv) ∧ w.cell? ⟨(ad.add (j * 4)).block, (ad.add (j * 4)).off + 1, none⟩ = some (.slice V m d) ∧ w.cell? ⟨(ad.add (j * 4)).block, (ad.add (j * 4)).off + 2, none⟩ = some (.slice U k e) ∧ w.cell? ⟨(ad.add (j * 4)).block, (ad.add (j * 4)).off + 3, none⟩ = some (.int .i64 (tX ts j).sum) ∧ TabR w V m U k (tX ts j)
section
variable {w w' : World} {A : Option Addr} {n j : Nat} {ts : List TabD}
theorem TabsR.at_ (h : TabsR w A n ts) (hj : j < n) : ∃ ad, A = some ad ∧ ∃ V m d U k e, w.cell? (ad.add (j * 4)) = some (.int .i64 (tX ts j).lv) ∧ w.cell? ⟨(ad.add (j * 4)).block, (ad.add (j * 4)).off + 1, none⟩ = some (.slice V m d) ∧ w.cell? ⟨(ad.add (j * 4)).block, (ad.add (j * 4)).off + 2, none⟩ = some (.slice U k e) ∧ w.cell? ⟨(ad.add (j * 4)).block, (ad.add (j * 4)).off + 3, none⟩ = some (.int .i64 (tX ts j).sum) ∧ TabR w V m U k (tX ts j) := by
  obtain ⟨ad, e, h2⟩ := h.at0 (by omega)
  exact ⟨ad, e, h2 j hj⟩
theorem TabsR.below (h : TabsR w A n ts) (hb : Below w.heap.size w w') : TabsR w' A n ts := ⟨h.len, h.bd, fun h0 => by
  obtain ⟨ad, e, h2⟩ := h.at0 h0
  refine ⟨ad, e, fun j hj => ?_⟩
  obtain ⟨V, m, d, U, k, e, c0, c1, c2, c3, ht⟩ := h2 j hj
  exact ⟨V, m, d, U, k, e, (hb.cell (block_lt_of_cell c0)).trans c0, (hb.cell (p := ⟨(ad.add (j * 4)).block, (ad.add (j * 4)).off + 1, none⟩) (block_lt_of_cell c1)).trans c1, (hb.cell (p := ⟨(ad.add (j * 4)).block, (ad.add (j * 4)).off + 2, none⟩) (block_lt_of_cell c2)).trans c2, (hb.cell (p := ⟨(ad.add (j * 4)).block, (ad.add (j * 4)).off + 3, none⟩) (block_lt_of_cell c3)).trans c3, ht.below hb⟩⟩
theorem tX_take {i : Nat} (h : j < i) : tX (ts.take i) j = tX ts j := by unfold tX; rw [List.getElem?_take_of_lt h]
theorem TabsR.take (h : TabsR w A n ts) {i : Nat} (hi : i ≤ n) : TabsR w A i (ts.take i) := ⟨by rw [List.length_take, h.len]; omega, by have := h.bd; omega, fun h0 => by
  obtain ⟨ad, e, h2⟩ := h.at0 (by omega)
  refine ⟨ad, e, fun j hj => ?_⟩
  rw [tX_take hj]
  exact h2 j (by omega)⟩
end
theorem fnd_at {ts : List TabD} {t : TabD} {n j : Nat} (hl : ts.length = n) (h1 : ∀ i, i < j → sameT (tX ts i) t = false) (hj : j < n) (h2 : sameT (tX ts j) t = true) : fndT ts t = j := by
  have e : fndN ts t = j := by
    unfold fndN
    refine (List.findIdx_eq (by omega)).2 ⟨?_, fun i hi => ?_⟩
    · have := h2; unfold tX at this; rwa [List.getElem?_eq_getElem (by omega), Option.getD_some] at this
    · have := h1 i hi; unfold tX at this; rwa [List.getElem?_eq_getElem (by omega), Option.getD_some] at this
  unfold fndT
  rw [e, if_pos (by omega)]
theorem fnd_no {ts : List TabD} {t : TabD} {n : Nat} (hl : ts.length = n) (h1 : ∀ i, i < n → sameT (tX ts i) t = false) : fndT ts t = -1 := by
  unfold fndT fndN
  rw [if_neg]
  intro h
  have h2 := List.findIdx_getElem (xs := ts) (p := fun u => sameT u t) (w := h)
  have h3 := h1 _ (hl ▸ h)
  unfold tX at h3
  rw [List.getElem?_eq_getElem h, Option.getD_some] at h3
  rw [h3] at h2
  cases h2
theorem fndT_of {ts : List TabD} {t : TabD} (h : 0 ≤ fndT ts t) : ∃ j : Nat, fndT ts t = j ∧ j < ts.length ∧ sameT (tX ts j) t = true := by
  unfold fndT at h ⊢
  by_cases hl : fndN ts t < ts.length
  · rw [if_pos hl]
    refine ⟨_, rfl, hl, ?_⟩
    have h2 := List.findIdx_getElem (xs := ts) (p := fun u => sameT u t) (w := hl)
    unfold tX
    rw [List.getElem?_eq_getElem hl, Option.getD_some]
    exact h2
  · rw [if_neg hl] at h; omega
theorem sameT_refl (t : TabD) : sameT t t = true := by unfold sameT; simp
/-- All tables of a list differ. -/
def difAt (ts : List TabD) (i : Nat) : Bool := fndT ts (tX ts i) == (i : Int)
def difB (ts : List TabD) : Bool := allTo (difAt ts) ts.length
/-- A table is the first of its like exactly when none ahead of it is like it. -/
theorem difAt_take {ts : List TabD} {i : Nat} (hi : i < ts.length) : difAt ts i = decide (fndT (ts.take i) (tX ts i) < 0) := by
  unfold difAt
  by_cases h : fndT (ts.take i) (tX ts i) < 0
  · rw [decide_eq_true h, beq_iff_eq]
    refine fnd_at rfl (fun j hj => ?_) hi (sameT_refl _)
    cases hs : sameT (tX ts j) (tX ts i) with
    | false => rfl
    | true =>
      exfalso
      have hx : ∀ k : Nat, k ≤ j → 0 ≤ fndT (ts.take i) (tX ts i) := by
        intro k hk
        apply Classical.byContradiction
        intro hn
        have : sameT (tX (ts.take i) j) (tX ts i) = true := by rw [tX_take hj]; exact hs
        have hlen : (ts.take i).length = i := by rw [List.length_take]; omega
        by_cases he : fndN (ts.take i) (tX ts i) < (ts.take i).length
        · unfold fndT at hn; rw [if_pos he] at hn; omega
        · unfold fndN at he
          have h3 := List.findIdx_lt_length_of_exists (xs := ts.take i) (p := fun u => sameT u (tX ts i)) ⟨tX (ts.take i) j, by unfold tX; rw [List.getElem?_eq_getElem (by omega), Option.getD_some]; exact List.getElem_mem _, this⟩
          exact he h3
      have := hx j (Nat.le_refl _)
      omega
  · rw [decide_eq_false h, beq_eq_false_iff_ne]
    obtain ⟨j, e, hj, hs⟩ := fndT_of (ts := ts.take i) (t := tX ts i) (by omega)
    have hlen : (ts.take i).length = i := by rw [List.length_take]; omega
    rw [tX_take (by omega)] at hs
    intro he
    unfold fndT at he
    by_cases hl : fndN ts (tX ts i) < ts.length
    · rw [if_pos hl] at he
      have : fndN ts (tX ts i) ≤ j := by
        unfold fndN
        apply Classical.byContradiction
        intro hn
        have h4 : sameT (ts[j]'(by omega)) (tX ts i) = false := by simpa using List.not_of_lt_findIdx (xs := ts) (p := fun u => sameT u (tX ts i)) (i := j) (by omega)
        have h5 : sameT (ts[j]'(by omega)) (tX ts i) = true := by have := hs; unfold tX at this ⊢; rwa [List.getElem?_eq_getElem (by omega), Option.getD_some] at this
        rw [h4] at h5
        cases h5
      omega
    · rw [if_neg hl] at he; omega

set_option maxRecDepth 100000 in
set_option maxHeartbeats 2000000 in
theorem slEqual_any (A B : Option Addr) (n c m d : Nat) (xs ys : List Int) (w : World) (hx : IntR w A n xs) (hy : IntR w B m ys) :
    Calls Tryz.prog 140 #[.slice A n c, .slice B m d] w fun e w' => e = .returned (.bool (xs == ys)) ∧ Below w.heap.size w w' := by
  have hn := hx.bd
  have hm := hy.bd
  have hl1 := Lib.hid hx.len
  have hl2 := Lib.hid hy.len
  by_cases hnm : n = m
  rotate_left
  · have R := Lib.hid (show false = (xs == ys) by symm; rw [beq_eq_false_iff_ne]; intro h; apply hnm; rw [← hl1.out, ← hl2.out, h])
    have hq : ((n : Int) != m) = true := by simpa using fun h => hnm (by exact_mod_cast h)
    clear hnm hx hy
    go_enter Tryz.func140, Tryz.ntmps140
    go_wp2
    go_ret
    exact ⟨ret_bool R.out, Below.refl _ _⟩
  subst hnm
  go_enter Tryz.func140, Tryz.ntmps140
  go_wp2
  go_loopw [13] (fun i wr => ∃ (k q : Nat), k ≤ n ∧ i = .int .i64 k ∧ Hid (∀ t, t < k → xs[t]?.getD 0 = ys[t]?.getD 0) ∧ wr = w.drewN q) (fun i _ => n - (intOf i).toNat)
  case atStart => exact ⟨0, 0, Nat.zero_le _, rfl, Lib.hid (fun t ht => absurd ht (by omega)), rfl⟩
  case round =>
    obtain ⟨k, q, hk, rfl, he, rfl⟩ := hrel
    by_cases hlt : k < n
    · obtain ⟨ad, rfl, hc⟩ := hx.i.at_ hlt
      obtain ⟨ad', rfl, hc'⟩ := hy.i.at_ hlt
      have HN := Lib.hid (fun (h : ¬ xs[k]?.getD 0 = ys[k]?.getD 0) => show false = (xs == ys) by symm; rw [beq_eq_false_iff_ne]; intro h9; exact h (by rw [h9]))
      have HA := Lib.hid (fun h => all_succ (p := fun t => xs[t]?.getD 0 = ys[t]?.getD 0) he.out h)
      clear hx hy he
      generalize xs[k]?.getD 0 = x at *
      generalize ys[k]?.getD 0 = y at *
      by_cases hxy : x = y
      · have HA2 := Lib.hid (HA.out hxy)
        clear HA HN
        subst hxy
        go_wp2
        go_quiet (fail)
        go_wp2
        go_roundw
        case rel => exact ⟨k + 1, _, by omega, by go_num, HA2, rfl⟩
        case measure => simp [intOf]; omega
      · have R := Lib.hid (HN.out hxy)
        have hq : (x != y) = true := by simpa using hxy
        clear HA HN hxy
        go_wp2
        go_quiet (fail)
        go_wp2
        go_ret
        exact ⟨ret_bool R.out, below_drewN (below_drewN (Below.refl _ _) _) _⟩
    · obtain rfl : k = n := by omega
      have R := Lib.hid (show true = (xs == ys) by
        symm
        rw [beq_iff_eq]
        apply List.ext_getElem?
        intro t
        rcases Nat.lt_or_ge t k with h | h
        · have h1 := he.out t h
          rw [List.getElem?_eq_getElem (by rw [hl1.out]; exact h), List.getElem?_eq_getElem (by rw [hl2.out]; exact h)] at h1 ⊢
          rw [Option.getD_some, Option.getD_some] at h1
          rw [h1]
        · rw [List.getElem?_eq_none (by rw [hl1.out]; exact h), List.getElem?_eq_none (by rw [hl2.out]; exact h)])
      clear hx hy
      go_wp2
      go_ret
      exact ⟨ret_bool R.out, below_drewN (Below.refl _ _) q⟩

set_option maxRecDepth 100000 in
set_option maxHeartbeats 2000000 in
theorem l1Same_any (A B : Option Addr) (n c m d : Nat) (xs ys : List Int) (w : World) (hx : IntR w A n xs) (hy : IntR w B m ys) :
    Calls Tryz.prog 135 #[.slice A n c, .slice B m d] w fun e w' => e = .returned (.bool (xs == ys)) ∧ Below w.heap.size w w' := by
  have hn := hx.bd
  have hm := hy.bd
  have hl1 := Lib.hid hx.len
  have hl2 := Lib.hid hy.len
  by_cases hnm : n = m
  rotate_left
  · have R := Lib.hid (show false = (xs == ys) by symm; rw [beq_eq_false_iff_ne]; intro h; apply hnm; rw [← hl1.out, ← hl2.out, h])
    have hq : ((n : Int) != m) = true := by simpa using fun h => hnm (by exact_mod_cast h)
    clear hnm hx hy
    go_enter Tryz.func135, Tryz.ntmps135
    go_wp2
    go_ret
    exact ⟨ret_bool R.out, Below.refl _ _⟩
  subst hnm
  go_enter Tryz.func135, Tryz.ntmps135
  go_wp2
  go_loopw [13] (fun i wr => ∃ (k q : Nat), k ≤ n ∧ i = .int .i64 k ∧ Hid (∀ t, t < k → xs[t]?.getD 0 = ys[t]?.getD 0) ∧ wr = w.drewN q) (fun i _ => n - (intOf i).toNat)
  case atStart => exact ⟨0, 0, Nat.zero_le _, rfl, Lib.hid (fun t ht => absurd ht (by omega)), rfl⟩
  case round =>
    obtain ⟨k, q, hk, rfl, he, rfl⟩ := hrel
    by_cases hlt : k < n
    · obtain ⟨ad, rfl, hc⟩ := hx.i.at_ hlt
      obtain ⟨ad', rfl, hc'⟩ := hy.i.at_ hlt
      have HN := Lib.hid (fun (h : ¬ xs[k]?.getD 0 = ys[k]?.getD 0) => show false = (xs == ys) by symm; rw [beq_eq_false_iff_ne]; intro h9; exact h (by rw [h9]))
      have HA := Lib.hid (fun h => all_succ (p := fun t => xs[t]?.getD 0 = ys[t]?.getD 0) he.out h)
      clear hx hy he
      generalize xs[k]?.getD 0 = x at *
      generalize ys[k]?.getD 0 = y at *
      by_cases hxy : x = y
      · have HA2 := Lib.hid (HA.out hxy)
        clear HA HN
        subst hxy
        go_wp2
        go_quiet (fail)
        go_wp2
        go_roundw
        case rel => exact ⟨k + 1, _, by omega, by go_num, HA2, rfl⟩
        case measure => simp [intOf]; omega
      · have R := Lib.hid (HN.out hxy)
        have hq : (x != y) = true := by simpa using hxy
        clear HA HN hxy
        go_wp2
        go_quiet (fail)
        go_wp2
        go_ret
        exact ⟨ret_bool R.out, below_drewN (below_drewN (Below.refl _ _) _) _⟩
    · obtain rfl : k = n := by omega
      have R := Lib.hid (show true = (xs == ys) by
        symm
        rw [beq_iff_eq]
        apply List.ext_getElem?
        intro t
        rcases Nat.lt_or_ge t k with h | h
        · have h1 := he.out t h
          rw [List.getElem?_eq_getElem (by rw [hl1.out]; exact h), List.getElem?_eq_getElem (by rw [hl2.out]; exact h)] at h1 ⊢
          rw [Option.getD_some, Option.getD_some] at h1
          rw [h1]
        · rw [List.getElem?_eq_none (by rw [hl1.out]; exact h), List.getElem?_eq_none (by rw [hl2.out]; exact h)])
      clear hx hy
      go_wp2
      go_ret
      exact ⟨ret_bool R.out, below_drewN (Below.refl _ _) q⟩

set_option maxRecDepth 100000 in
set_option maxHeartbeats 2000000 in
theorem equalTables_any (V U V' U' : Option Addr) (m d k e m' d' k' e' : Nat) (t u : TabD) (w : World) (ht : TabR w V m U k t) (hu : TabR w V' m' U' k' u) :
    Calls Tryz.prog 120 #[.agg #[.int .i64 t.lv, .slice V m d, .slice U k e, .int .i64 t.sum], .agg #[.int .i64 u.lv, .slice V' m' d', .slice U' k' e', .int .i64 u.sum]] w fun e w' => e = .returned (.bool (sameT t u)) ∧ Below w.heap.size w w' := by
  obtain ⟨b0, x2, x3⟩ := box_two w #[.int .i64 t.lv, .slice V m d, .slice U k e, .int .i64 t.sum] #[.int .i64 u.lv, .slice V' m' d', .slice U' k' e', .int .i64 u.sum] 56 56
  replace ht := ht.below b0
  replace hu := hu.below b0
  have HB := Lib.hid b0
  have X2 := Lib.hid x2
  have X3 := Lib.hid x3
  have hS : sameT t u = ((t.lv == u.lv) && ((t.sum == u.sum) && ((t.vars == u.vars) && (t.wh == u.wh)))) := rfl
  have l20 := lt_of_block x2
  have l30 := lt_of_block x3
  have c20 := bxc x2 0 _ rfl
  have c21 := bxc x2 1 _ rfl
  have c22 := bxc x2 2 _ rfl
  have c23 := bxc x2 3 _ rfl
  have c30 := bxc x3 0 _ rfl
  have c31 := bxc x3 1 _ rfl
  have c32 := bxc x3 2 _ rfl
  have c33 := bxc x3 3 _ rfl
  clear x2 x3 b0
  cases hl : (t.lv == u.lv)
  · have R := Lib.hid (show false = sameT t u by rw [hS, hl]; simp)
    have ql := hl
    replace hl := Lib.hid hl
    clear hS
    go_enter Tryz.func120, Tryz.ntmps120
    go_wp2
    go_ret
    exact ⟨ret_bool R.out, HB.out⟩
  have ql := hl
  replace hl := Lib.hid hl
  cases hs : (t.sum == u.sum)
  · have R := Lib.hid (show false = sameT t u by rw [hS, hl.out, hs]; simp)
    have qs := hs
    replace hs := Lib.hid hs
    clear hS
    go_enter Tryz.func120, Tryz.ntmps120
    go_wp2
    go_ret
    exact ⟨ret_bool R.out, HB.out⟩
  have qs := hs
  replace hs := Lib.hid hs
  cases hv : (t.vars == u.vars)
  · have R := Lib.hid (show false = sameT t u by rw [hS, hl.out, hs.out, hv]; simp)
    replace hv := Lib.hid hv
    clear hS
    go_enter Tryz.func120, Tryz.ntmps120
    go_wp2_with fail
    clear c20 c21 c22 c23 c30 c31 c32 c33 l20 l30
    generalize (w.alloc (.cells #[.int .i64 t.lv, .slice V m d, .slice U k e, .int .i64 t.sum] 56)).alloc (.cells #[.int .i64 u.lv, .slice V' m' d', .slice U' k' e', .int .i64 u.sum] 56) = w0 at *
    refine (slEqual_any _ _ _ _ _ _ t.vars u.vars _ ht.v hu.v).mono ?_
    rintro e w7 ⟨rfl, b7⟩
    rw [hv.out]
    replace ht := ht.below b7
    replace hu := hu.below b7
    replace X2 := Lib.hid (bxb X2.out b7)
    replace X3 := Lib.hid (bxb X3.out b7)
    replace HB := Lib.hid (HB.out.trans (b7.mono HB.out.size))
    clear b7
    have l20 := lt_of_block X2.out
    have l30 := lt_of_block X3.out
    have c20 := bxc X2.out 0 _ rfl
    have c21 := bxc X2.out 1 _ rfl
    have c22 := bxc X2.out 2 _ rfl
    have c23 := bxc X2.out 3 _ rfl
    have c30 := bxc X3.out 0 _ rfl
    have c31 := bxc X3.out 1 _ rfl
    have c32 := bxc X3.out 2 _ rfl
    have c33 := bxc X3.out 3 _ rfl
    go_wp2
    go_ret
    exact ⟨ret_bool R.out, HB.out⟩
  replace hv := Lib.hid hv
  cases hw : (t.wh == u.wh)
  · have R := Lib.hid (show false = sameT t u by rw [hS, hl.out, hs.out, hv.out, hw]; simp)
    replace hw := Lib.hid hw
    clear hS
    go_enter Tryz.func120, Tryz.ntmps120
    go_wp2_with fail
    clear c20 c21 c22 c23 c30 c31 c32 c33 l20 l30
    generalize (w.alloc (.cells #[.int .i64 t.lv, .slice V m d, .slice U k e, .int .i64 t.sum] 56)).alloc (.cells #[.int .i64 u.lv, .slice V' m' d', .slice U' k' e', .int .i64 u.sum] 56) = w0 at *
    refine (slEqual_any _ _ _ _ _ _ t.vars u.vars _ ht.v hu.v).mono ?_
    rintro e w7 ⟨rfl, b7⟩
    rw [hv.out]
    replace ht := ht.below b7
    replace hu := hu.below b7
    replace X2 := Lib.hid (bxb X2.out b7)
    replace X3 := Lib.hid (bxb X3.out b7)
    replace HB := Lib.hid (HB.out.trans (b7.mono HB.out.size))
    clear b7
    have l20 := lt_of_block X2.out
    have l30 := lt_of_block X3.out
    have c20 := bxc X2.out 0 _ rfl
    have c21 := bxc X2.out 1 _ rfl
    have c22 := bxc X2.out 2 _ rfl
    have c23 := bxc X2.out 3 _ rfl
    have c30 := bxc X3.out 0 _ rfl
    have c31 := bxc X3.out 1 _ rfl
    have c32 := bxc X3.out 2 _ rfl
    have c33 := bxc X3.out 3 _ rfl
    go_wp2_with fail
    clear c20 c21 c22 c23 c30 c31 c32 c33 l20 l30
    refine (slEqual_any _ _ _ _ _ _ t.wh u.wh _ ht.u hu.u).mono ?_
    rintro e w8 ⟨rfl, b8⟩
    rw [hw.out]
    replace ht := ht.below b8
    replace hu := hu.below b8
    replace X2 := Lib.hid (bxb X2.out b8)
    replace X3 := Lib.hid (bxb X3.out b8)
    replace HB := Lib.hid (HB.out.trans (b8.mono HB.out.size))
    clear b8
    have l20 := lt_of_block X2.out
    have l30 := lt_of_block X3.out
    have c20 := bxc X2.out 0 _ rfl
    have c21 := bxc X2.out 1 _ rfl
    have c22 := bxc X2.out 2 _ rfl
    have c23 := bxc X2.out 3 _ rfl
    have c30 := bxc X3.out 0 _ rfl
    have c31 := bxc X3.out 1 _ rfl
    have c32 := bxc X3.out 2 _ rfl
    have c33 := bxc X3.out 3 _ rfl
    go_wp2
    go_ret
    exact ⟨ret_bool R.out, HB.out⟩
  replace hw := Lib.hid hw
  have R := Lib.hid (show true = sameT t u by rw [hS, hl.out, hs.out, hv.out, hw.out]; rfl)
  clear hS
  go_enter Tryz.func120, Tryz.ntmps120
  go_wp2_with fail
  clear c20 c21 c22 c23 c30 c31 c32 c33 l20 l30
  generalize (w.alloc (.cells #[.int .i64 t.lv, .slice V m d, .slice U k e, .int .i64 t.sum] 56)).alloc (.cells #[.int .i64 u.lv, .slice V' m' d', .slice U' k' e', .int .i64 u.sum] 56) = w0 at *
  refine (slEqual_any _ _ _ _ _ _ t.vars u.vars _ ht.v hu.v).mono ?_
  rintro e w7 ⟨rfl, b7⟩
  rw [hv.out]
  replace ht := ht.below b7
  replace hu := hu.below b7
  replace X2 := Lib.hid (bxb X2.out b7)
  replace X3 := Lib.hid (bxb X3.out b7)
  replace HB := Lib.hid (HB.out.trans (b7.mono HB.out.size))
  clear b7
  have l20 := lt_of_block X2.out
  have l30 := lt_of_block X3.out
  have c20 := bxc X2.out 0 _ rfl
  have c21 := bxc X2.out 1 _ rfl
  have c22 := bxc X2.out 2 _ rfl
  have c23 := bxc X2.out 3 _ rfl
  have c30 := bxc X3.out 0 _ rfl
  have c31 := bxc X3.out 1 _ rfl
  have c32 := bxc X3.out 2 _ rfl
  have c33 := bxc X3.out 3 _ rfl
  go_wp2_with fail
  clear c20 c21 c22 c23 c30 c31 c32 c33 l20 l30
  refine (slEqual_any _ _ _ _ _ _ t.wh u.wh _ ht.u hu.u).mono ?_
  rintro e w8 ⟨rfl, b8⟩
  rw [hw.out]
  replace ht := ht.below b8
  replace hu := hu.below b8
  replace X2 := Lib.hid (bxb X2.out b8)
  replace X3 := Lib.hid (bxb X3.out b8)
  replace HB := Lib.hid (HB.out.trans (b8.mono HB.out.size))
  clear b8
  have l20 := lt_of_block X2.out
  have l30 := lt_of_block X3.out
  have c20 := bxc X2.out 0 _ rfl
  have c21 := bxc X2.out 1 _ rfl
  have c22 := bxc X2.out 2 _ rfl
  have c23 := bxc X2.out 3 _ rfl
  have c30 := bxc X3.out 0 _ rfl
  have c31 := bxc X3.out 1 _ rfl
  have c32 := bxc X3.out 2 _ rfl
  have c33 := bxc X3.out 3 _ rfl
  go_wp2
  go_ret
  exact ⟨ret_bool R.out, HB.out⟩

set_option maxRecDepth 100000 in
set_option maxHeartbeats 2000000 in
theorem jSame_any (V U V' U' : Option Addr) (m d k e m' d' k' e' : Nat) (t u : TabD) (w : World) (ht : TabR w V m U k t) (hu : TabR w V' m' U' k' u) :
    Calls Tryz.prog 164 #[.agg #[.int .i64 t.lv, .slice V m d, .slice U k e, .int .i64 t.sum], .agg #[.int .i64 u.lv, .slice V' m' d', .slice U' k' e', .int .i64 u.sum]] w fun e w' => e = .returned (.bool (sameT t u)) ∧ Below w.heap.size w w' := by
  obtain ⟨b0, x2, x3⟩ := box_two w #[.int .i64 t.lv, .slice V m d, .slice U k e, .int .i64 t.sum] #[.int .i64 u.lv, .slice V' m' d', .slice U' k' e', .int .i64 u.sum] 56 56
  replace ht := ht.below b0
  replace hu := hu.below b0
  have HB := Lib.hid b0
  have X2 := Lib.hid x2
  have X3 := Lib.hid x3
  have hS : sameT t u = ((t.lv == u.lv) && ((t.sum == u.sum) && ((t.vars == u.vars) && (t.wh == u.wh)))) := rfl
  have l20 := lt_of_block x2
  have l30 := lt_of_block x3
  have c20 := bxc x2 0 _ rfl
  have c21 := bxc x2 1 _ rfl
  have c22 := bxc x2 2 _ rfl
  have c23 := bxc x2 3 _ rfl
  have c30 := bxc x3 0 _ rfl
  have c31 := bxc x3 1 _ rfl
  have c32 := bxc x3 2 _ rfl
  have c33 := bxc x3 3 _ rfl
  clear x2 x3 b0
  cases hl : (t.lv == u.lv)
  · have R := Lib.hid (show false = sameT t u by rw [hS, hl]; simp)
    have ql := hl
    replace hl := Lib.hid hl
    clear hS
    go_enter Tryz.func164, Tryz.ntmps164
    go_wp2
    go_ret
    exact ⟨ret_bool R.out, HB.out⟩
  have ql := hl
  replace hl := Lib.hid hl
  cases hv : (t.vars == u.vars)
  · have R := Lib.hid (show false = sameT t u by rw [hS, hl.out, hv]; simp)
    replace hv := Lib.hid hv
    clear hS
    go_enter Tryz.func164, Tryz.ntmps164
    go_wp2_with fail
    clear c20 c21 c22 c23 c30 c31 c32 c33 l20 l30
    generalize (w.alloc (.cells #[.int .i64 t.lv, .slice V m d, .slice U k e, .int .i64 t.sum] 56)).alloc (.cells #[.int .i64 u.lv, .slice V' m' d', .slice U' k' e', .int .i64 u.sum] 56) = w0 at *
    refine (l1Same_any _ _ _ _ _ _ t.vars u.vars _ ht.v hu.v).mono ?_
    rintro e w6 ⟨rfl, b6⟩
    rw [hv.out]
    replace ht := ht.below b6
    replace hu := hu.below b6
    replace X2 := Lib.hid (bxb X2.out b6)
    replace X3 := Lib.hid (bxb X3.out b6)
    replace HB := Lib.hid (HB.out.trans (b6.mono HB.out.size))
    clear b6
    have l20 := lt_of_block X2.out
    have l30 := lt_of_block X3.out
    have c20 := bxc X2.out 0 _ rfl
    have c21 := bxc X2.out 1 _ rfl
    have c22 := bxc X2.out 2 _ rfl
    have c23 := bxc X2.out 3 _ rfl
    have c30 := bxc X3.out 0 _ rfl
    have c31 := bxc X3.out 1 _ rfl
    have c32 := bxc X3.out 2 _ rfl
    have c33 := bxc X3.out 3 _ rfl
    go_wp2
    go_ret
    exact ⟨ret_bool R.out, HB.out⟩
  replace hv := Lib.hid hv
  cases hw : (t.wh == u.wh)
  · have R := Lib.hid (show false = sameT t u by rw [hS, hl.out, hv.out, hw]; simp)
    replace hw := Lib.hid hw
    clear hS
    go_enter Tryz.func164, Tryz.ntmps164
    go_wp2_with fail
    clear c20 c21 c22 c23 c30 c31 c32 c33 l20 l30
    generalize (w.alloc (.cells #[.int .i64 t.lv, .slice V m d, .slice U k e, .int .i64 t.sum] 56)).alloc (.cells #[.int .i64 u.lv, .slice V' m' d', .slice U' k' e', .int .i64 u.sum] 56) = w0 at *
    refine (l1Same_any _ _ _ _ _ _ t.vars u.vars _ ht.v hu.v).mono ?_
    rintro e w6 ⟨rfl, b6⟩
    rw [hv.out]
    replace ht := ht.below b6
    replace hu := hu.below b6
    replace X2 := Lib.hid (bxb X2.out b6)
    replace X3 := Lib.hid (bxb X3.out b6)
    replace HB := Lib.hid (HB.out.trans (b6.mono HB.out.size))
    clear b6
    have l20 := lt_of_block X2.out
    have l30 := lt_of_block X3.out
    have c20 := bxc X2.out 0 _ rfl
    have c21 := bxc X2.out 1 _ rfl
    have c22 := bxc X2.out 2 _ rfl
    have c23 := bxc X2.out 3 _ rfl
    have c30 := bxc X3.out 0 _ rfl
    have c31 := bxc X3.out 1 _ rfl
    have c32 := bxc X3.out 2 _ rfl
    have c33 := bxc X3.out 3 _ rfl
    go_wp2_with fail
    clear c20 c21 c22 c23 c30 c31 c32 c33 l20 l30
    refine (l1Same_any _ _ _ _ _ _ t.wh u.wh _ ht.u hu.u).mono ?_
    rintro e w7 ⟨rfl, b7⟩
    rw [hw.out]
    replace ht := ht.below b7
    replace hu := hu.below b7
    replace X2 := Lib.hid (bxb X2.out b7)
    replace X3 := Lib.hid (bxb X3.out b7)
    replace HB := Lib.hid (HB.out.trans (b7.mono HB.out.size))
    clear b7
    have l20 := lt_of_block X2.out
    have l30 := lt_of_block X3.out
    have c20 := bxc X2.out 0 _ rfl
    have c21 := bxc X2.out 1 _ rfl
    have c22 := bxc X2.out 2 _ rfl
    have c23 := bxc X2.out 3 _ rfl
    have c30 := bxc X3.out 0 _ rfl
    have c31 := bxc X3.out 1 _ rfl
    have c32 := bxc X3.out 2 _ rfl
    have c33 := bxc X3.out 3 _ rfl
    go_wp2
    go_ret
    exact ⟨ret_bool R.out, HB.out⟩
  replace hw := Lib.hid hw
  cases hs : (t.sum == u.sum)
  · have R := Lib.hid (show false = sameT t u by rw [hS, hl.out, hv.out, hw.out, hs]; simp)
    have qs := hs
    replace hs := Lib.hid hs
    clear hS
    go_enter Tryz.func164, Tryz.ntmps164
    go_wp2_with fail
    clear c20 c21 c22 c23 c30 c31 c32 c33 l20 l30
    generalize (w.alloc (.cells #[.int .i64 t.lv, .slice V m d, .slice U k e, .int .i64 t.sum] 56)).alloc (.cells #[.int .i64 u.lv, .slice V' m' d', .slice U' k' e', .int .i64 u.sum] 56) = w0 at *
    refine (l1Same_any _ _ _ _ _ _ t.vars u.vars _ ht.v hu.v).mono ?_
    rintro e w6 ⟨rfl, b6⟩
    rw [hv.out]
    replace ht := ht.below b6
    replace hu := hu.below b6
    replace X2 := Lib.hid (bxb X2.out b6)
    replace X3 := Lib.hid (bxb X3.out b6)
    replace HB := Lib.hid (HB.out.trans (b6.mono HB.out.size))
    clear b6
    have l20 := lt_of_block X2.out
    have l30 := lt_of_block X3.out
    have c20 := bxc X2.out 0 _ rfl
    have c21 := bxc X2.out 1 _ rfl
    have c22 := bxc X2.out 2 _ rfl
    have c23 := bxc X2.out 3 _ rfl
    have c30 := bxc X3.out 0 _ rfl
    have c31 := bxc X3.out 1 _ rfl
    have c32 := bxc X3.out 2 _ rfl
    have c33 := bxc X3.out 3 _ rfl
    go_wp2_with fail
    clear c20 c21 c22 c23 c30 c31 c32 c33 l20 l30
    refine (l1Same_any _ _ _ _ _ _ t.wh u.wh _ ht.u hu.u).mono ?_
    rintro e w7 ⟨rfl, b7⟩
    rw [hw.out]
    replace ht := ht.below b7
    replace hu := hu.below b7
    replace X2 := Lib.hid (bxb X2.out b7)
    replace X3 := Lib.hid (bxb X3.out b7)
    replace HB := Lib.hid (HB.out.trans (b7.mono HB.out.size))
    clear b7
    have l20 := lt_of_block X2.out
    have l30 := lt_of_block X3.out
    have c20 := bxc X2.out 0 _ rfl
    have c21 := bxc X2.out 1 _ rfl
    have c22 := bxc X2.out 2 _ rfl
    have c23 := bxc X2.out 3 _ rfl
    have c30 := bxc X3.out 0 _ rfl
    have c31 := bxc X3.out 1 _ rfl
    have c32 := bxc X3.out 2 _ rfl
    have c33 := bxc X3.out 3 _ rfl
    go_wp2
    go_ret
    exact ⟨ret_bool R.out, HB.out⟩
  have qs := hs
  replace hs := Lib.hid hs
  have R := Lib.hid (show true = sameT t u by rw [hS, hl.out, hv.out, hw.out, hs.out]; rfl)
  clear hS
  go_enter Tryz.func164, Tryz.ntmps164
  go_wp2_with fail
  clear c20 c21 c22 c23 c30 c31 c32 c33 l20 l30
  generalize (w.alloc (.cells #[.int .i64 t.lv, .slice V m d, .slice U k e, .int .i64 t.sum] 56)).alloc (.cells #[.int .i64 u.lv, .slice V' m' d', .slice U' k' e', .int .i64 u.sum] 56) = w0 at *
  refine (l1Same_any _ _ _ _ _ _ t.vars u.vars _ ht.v hu.v).mono ?_
  rintro e w6 ⟨rfl, b6⟩
  rw [hv.out]
  replace ht := ht.below b6
  replace hu := hu.below b6
  replace X2 := Lib.hid (bxb X2.out b6)
  replace X3 := Lib.hid (bxb X3.out b6)
  replace HB := Lib.hid (HB.out.trans (b6.mono HB.out.size))
  clear b6
  have l20 := lt_of_block X2.out
  have l30 := lt_of_block X3.out
  have c20 := bxc X2.out 0 _ rfl
  have c21 := bxc X2.out 1 _ rfl
  have c22 := bxc X2.out 2 _ rfl
  have c23 := bxc X2.out 3 _ rfl
  have c30 := bxc X3.out 0 _ rfl
  have c31 := bxc X3.out 1 _ rfl
  have c32 := bxc X3.out 2 _ rfl
  have c33 := bxc X3.out 3 _ rfl
  go_wp2_with fail
  clear c20 c21 c22 c23 c30 c31 c32 c33 l20 l30
  refine (l1Same_any _ _ _ _ _ _ t.wh u.wh _ ht.u hu.u).mono ?_
  rintro e w7 ⟨rfl, b7⟩
  rw [hw.out]
  replace ht := ht.below b7
  replace hu := hu.below b7
  replace X2 := Lib.hid (bxb X2.out b7)
  replace X3 := Lib.hid (bxb X3.out b7)
  replace HB := Lib.hid (HB.out.trans (b7.mono HB.out.size))
  clear b7
  have l20 := lt_of_block X2.out
  have l30 := lt_of_block X3.out
  have c20 := bxc X2.out 0 _ rfl
  have c21 := bxc X2.out 1 _ rfl
  have c22 := bxc X2.out 2 _ rfl
  have c23 := bxc X2.out 3 _ rfl
  have c30 := bxc X3.out 0 _ rfl
  have c31 := bxc X3.out 1 _ rfl
  have c32 := bxc X3.out 2 _ rfl
  have c33 := bxc X3.out 3 _ rfl
  go_wp2
  go_ret
  exact ⟨ret_bool R.out, HB.out⟩

set_option maxRecDepth 100000 in
set_option maxHeartbeats 2000000 in
theorem ixClo_any (gt : Nat) (V U V' U' : Option Addr) (m d k e m' d' k' e' : Nat) (t u : TabD) (w : World) (x0 : w.heap[gt]? = some (.cells #[.int .i64 t.lv, .slice V m d, .slice U k e, .int .i64 t.sum] 56 (0, 0))) (ht : TabR w V m U k t) (hu : TabR w V' m' U' k' u) :
    Calls Tryz.prog 119 #[.agg #[.int .i64 u.lv, .slice V' m' d', .slice U' k' e', .int .i64 u.sum], .pointer (some ⟨gt, 0, none⟩)] w fun e w' => e = .returned (.bool (sameT t u)) ∧ Below w.heap.size w w' := by
  have b0 := below_new w (.cells #[.int .i64 u.lv, .slice V' m' d', .slice U' k' e', .int .i64 u.sum] 56)
  have X := Lib.hid (bxb x0 b0)
  have x2 := box_new w #[.int .i64 u.lv, .slice V' m' d', .slice U' k' e', .int .i64 u.sum] 56
  replace ht := ht.below b0
  replace hu := hu.below b0
  have HB := Lib.hid b0
  have l1 := lt_of_block X.out
  have l2 := lt_of_block x2
  have c0 := bxc X.out 0 _ rfl
  have c1 := bxc X.out 1 _ rfl
  have c2 := bxc X.out 2 _ rfl
  have c3 := bxc X.out 3 _ rfl
  have d0 := bxc x2 0 _ rfl
  have d1 := bxc x2 1 _ rfl
  have d2 := bxc x2 2 _ rfl
  have d3 := bxc x2 3 _ rfl
  clear x0 x2 b0
  go_enter Tryz.func119, Tryz.ntmps119
  go_wp2_with fail
  clear c0 c1 c2 c3 d0 d1 d2 d3 l1 l2
  generalize w.alloc (.cells #[.int .i64 u.lv, .slice V' m' d', .slice U' k' e', .int .i64 u.sum] 56) = w0 at *
  refine (equalTables_any V U V' U' m d k e m' d' k' e' t u _ ht hu).mono ?_
  rintro e w1 ⟨rfl, b1⟩
  have HB1 := Lib.hid (HB.out.trans (b1.mono HB.out.size))
  clear b1 X ht hu HB
  go_wp2
  go_ret
  exact ⟨rfl, HB1.out⟩

theorem fnd_step {ts : List TabD} {t : TabD} {j : Nat} (h : ∀ i, i < j → sameT (tX ts i) t = false) (h2 : sameT (tX ts j) t = false) : ∀ i, i < j + 1 → sameT (tX ts i) t = false := fun i hi => by
  rcases Nat.lt_or_ge i j with h9 | h9
  · exact h i h9
  · obtain rfl : i = j := by omega
    exact h2

set_option maxRecDepth 100000 in
set_option maxHeartbeats 2000000 in
theorem ixFunc_any (gt : Nat) (A V U : Option Addr) (n c m d k e : Nat) (ts : List TabD) (t : TabD) (w : World) (x0 : w.heap[gt]? = some (.cells #[.int .i64 t.lv, .slice V m d, .slice U k e, .int .i64 t.sum] 56 (0, 0))) (hA : TabsR w A n ts) (ht : TabR w V m U k t) :
    Calls Tryz.prog 118 #[.slice A n c, .func (.func 119) #[] #[.pointer (some ⟨gt, 0, none⟩)]] w fun e w' => e = .returned (.int .i64 (fndT ts t)) ∧ Below w.heap.size w w' := by
  have hn := hA.bd
  have hl := Lib.hid hA.len
  have X := Lib.hid x0
  clear x0
  go_enter Tryz.func118, Tryz.ntmps118
  go_wp2
  go_loopw [8] (fun i wr => ∃ j : Nat, j ≤ n ∧ i = .int .i64 j ∧ Hid (∀ i, i < j → sameT (tX ts i) t = false) ∧ Below w.heap.size w wr) (fun i _ => n - (intOf i).toNat)
  case atStart => exact ⟨0, Nat.zero_le _, rfl, Lib.hid (fun i hi => absurd hi (by omega)), Below.refl _ _⟩
  case round =>
    obtain ⟨j, hj, rfl, hf, hbw⟩ := hrel
    by_cases hlt : j < n
    · obtain ⟨ad, rfl, V', m', d', U', k', e', c0, c1, c2, c3, hu⟩ := (hA.below hbw).at_ hlt
      have HW := Lib.hid hbw
      have HU := Lib.hid hu
      have HT := Lib.hid (ht.below hbw)
      have XJ := Lib.hid (bxb X.out hbw)
      clear hbw hu hA ht
      go_wp2_with fail
      refine (ixClo_any gt V U V' U' m d k e m' d' k' e' t (tX ts j) _ XJ.out HT.out HU.out).mono ?_
      rintro e w5 ⟨rfl, b5⟩
      have HW5 := Lib.hid (HW.out.trans (b5.mono HW.out.size))
      clear c0 c1 c2 c3 b5 HW XJ HT HU
      rw [sameT_comm]
      cases hs : sameT (tX ts j) t
      · have HF := Lib.hid (fnd_step hf.out hs)
        clear hs
        go_wp2
        go_roundw
        case rel => exact ⟨j + 1, by omega, by go_num, HF, HW5.out⟩
        case measure => simp [intOf]; omega
      · have R := Lib.hid (fnd_at hl.out hf.out hlt hs)
        clear hs
        go_wp2
        go_ret
        exact ⟨ret_int R.out.symm, HW5.out⟩
    · obtain rfl : j = n := by omega
      have R := Lib.hid (fnd_no hl.out hf.out)
      clear hA
      go_wp2
      go_ret
      exact ⟨ret_int R.out.symm, hbw⟩

set_option maxRecDepth 100000 in
set_option maxHeartbeats 2000000 in
theorem indexOfTable_any (A V U : Option Addr) (n c m d k e : Nat) (ts : List TabD) (t : TabD) (w : World) (hA : TabsR w A n ts) (ht : TabR w V m U k t) :
    Calls Tryz.prog 63 #[.slice A n c, .agg #[.int .i64 t.lv, .slice V m d, .slice U k e, .int .i64 t.sum]] w fun e w' => e = .returned (.int .i64 (fndT ts t)) ∧ Below w.heap.size w w' := by
  have b0 := below_new w (.cells #[.int .i64 t.lv, .slice V m d, .slice U k e, .int .i64 t.sum] 56)
  have x0 := box_new w #[.int .i64 t.lv, .slice V m d, .slice U k e, .int .i64 t.sum] 56
  replace hA := hA.below b0
  replace ht := ht.below b0
  have HB := Lib.hid b0
  have l0 := lt_of_block x0
  go_enter Tryz.func63, Tryz.ntmps63
  go_wp2_with fail
  generalize w.alloc (.cells #[.int .i64 t.lv, .slice V m d, .slice U k e, .int .i64 t.sum] 56) = w0 at *
  refine (ixFunc_any w.heap.size A V U n c m d k e ts t _ x0 hA ht).mono ?_
  rintro e w1 ⟨rfl, b1⟩
  have HB1 := Lib.hid (HB.out.trans (b1.mono HB.out.size))
  clear b1 x0 hA ht HB b0
  go_wp2
  go_ret
  exact ⟨rfl, HB1.out⟩

set_option maxRecDepth 100000 in
set_option maxHeartbeats 2000000 in
theorem jFind_any (A V U : Option Addr) (n c m d k e : Nat) (ts : List TabD) (t : TabD) (w : World) (hA : TabsR w A n ts) (ht : TabR w V m U k t) :
    Calls Tryz.prog 109 #[.slice A n c, .agg #[.int .i64 t.lv, .slice V m d, .slice U k e, .int .i64 t.sum]] w fun e w' => e = .returned (.int .i64 (fndT ts t)) ∧ Below w.heap.size w w' := by
  have b0 := below_new w (.cells #[.int .i64 t.lv, .slice V m d, .slice U k e, .int .i64 t.sum] 56)
  have X := Lib.hid (box_new w #[.int .i64 t.lv, .slice V m d, .slice U k e, .int .i64 t.sum] 56)
  replace hA := hA.below b0
  replace ht := ht.below b0
  have hn := hA.bd
  have hl := Lib.hid hA.len
  have HB := Lib.hid b0
  go_enter Tryz.func109, Tryz.ntmps109
  go_wp2_with fail
  generalize w.alloc (.cells #[.int .i64 t.lv, .slice V m d, .slice U k e, .int .i64 t.sum] 56) = w0 at *
  clear b0
  go_loopw [9] (fun i wr => ∃ j : Nat, j ≤ n ∧ i = .int .i64 j ∧ Hid (∀ i, i < j → sameT (tX ts i) t = false) ∧ Below w0.heap.size w0 wr) (fun i _ => n - (intOf i).toNat)
  case atStart => exact ⟨0, Nat.zero_le _, rfl, Lib.hid (fun i hi => absurd hi (by omega)), Below.refl _ _⟩
  case round =>
    obtain ⟨j, hj, rfl, hf, hbw⟩ := hrel
    have s0 := HB.out.size
    have s1 := hbw.size
    by_cases hlt : j < n
    · obtain ⟨ad, rfl, V', m', d', U', k', e', c0, c1, c2, c3, hu⟩ := (hA.below hbw).at_ hlt
      have bj := below_new wr (.cells #[.int .i64 (tX ts j).lv, .slice V' m' d', .slice U' k' e', .int .i64 (tX ts j).sum] 56)
      have XN := Lib.hid (box_new wr #[.int .i64 (tX ts j).lv, .slice V' m' d', .slice U' k' e', .int .i64 (tX ts j).sum] 56)
      have XJ := Lib.hid (bxb (bxb X.out hbw) bj)
      have HU := Lib.hid (hu.below bj)
      have HT := Lib.hid ((ht.below hbw).below bj)
      have HW := Lib.hid (hbw.trans (bj.mono hbw.size))
      have l0 := lt_of_block XJ.out
      have l1 := lt_of_block XN.out
      have p0 := bxc XJ.out 0 _ rfl
      have p1 := bxc XJ.out 1 _ rfl
      have p2 := bxc XJ.out 2 _ rfl
      have p3 := bxc XJ.out 3 _ rfl
      have q0 := bxc XN.out 0 _ rfl
      have q1 := bxc XN.out 1 _ rfl
      have q2 := bxc XN.out 2 _ rfl
      have q3 := bxc XN.out 3 _ rfl
      clear hbw hu hA ht bj
      go_wp2_with fail
      clear p0 p1 p2 p3 q0 q1 q2 q3 l0 l1
      generalize wr.alloc (.cells #[.int .i64 (tX ts j).lv, .slice V' m' d', .slice U' k' e', .int .i64 (tX ts j).sum] 56) = w4 at *
      refine (jSame_any V' U' V U m' d' k' e' m d k e (tX ts j) t _ HU.out HT.out).mono ?_
      rintro e w5 ⟨rfl, b5⟩
      have HW5 := Lib.hid (HW.out.trans (b5.mono HW.out.size))
      clear c0 c1 c2 c3 b5 HW XJ XN HT HU
      cases hs : sameT (tX ts j) t
      · have HF := Lib.hid (fnd_step hf.out hs)
        clear hs
        go_wp2
        go_roundw
        case rel => exact ⟨j + 1, by omega, by go_num, HF, HW5.out⟩
        case measure => simp [intOf]; omega
      · have R := Lib.hid (fnd_at hl.out hf.out hlt hs)
        clear hs
        go_wp2
        go_ret
        exact ⟨ret_int R.out.symm, HB.out.trans (HW5.out.mono s0)⟩
    · obtain rfl : j = n := by omega
      have R := Lib.hid (fnd_no hl.out hf.out)
      clear hA ht
      go_wp2
      go_ret
      exact ⟨ret_int R.out.symm, HB.out.trans (hbw.mono s0)⟩

set_option maxRecDepth 100000 in
set_option maxHeartbeats 2000000 in
theorem areDifferent_any (A : Option Addr) (n c : Nat) (ts : List TabD) (w : World) (hA : TabsR w A n ts) :
    Calls Tryz.prog 61 #[.slice A n c] w fun e w' => e = .returned (.bool (difB ts)) ∧ Below w.heap.size w w' := by
  have hn := hA.bd
  have hl := Lib.hid hA.len
  go_enter Tryz.func61, Tryz.ntmps61
  go_wp2
  go_loopw [7] (fun i wr => ∃ j : Nat, j ≤ n ∧ i = .int .i64 j ∧ Hid (allTo (difAt ts) j = true) ∧ Below w.heap.size w wr) (fun i _ => n - (intOf i).toNat)
  case atStart => exact ⟨0, Nat.zero_le _, rfl, Lib.hid (allTo_zero _), Below.refl _ _⟩
  case round =>
    obtain ⟨j, hj, rfl, hf, hbw⟩ := hrel
    have s1 := hbw.size
    by_cases hlt : j < n
    · obtain ⟨ad, rfl, V', m', d', U', k', e', c0, c1, c2, c3, hu⟩ := (hA.below hbw).at_ hlt
      have bj := below_new wr (.cells #[.int .i64 (tX ts j).lv, .slice V' m' d', .slice U' k' e', .int .i64 (tX ts j).sum] 56)
      have XN := Lib.hid (box_new wr #[.int .i64 (tX ts j).lv, .slice V' m' d', .slice U' k' e', .int .i64 (tX ts j).sum] 56)
      have HU := Lib.hid (hu.below bj)
      have HA := Lib.hid ((hA.below hbw).below bj)
      have HW := Lib.hid (hbw.trans (bj.mono hbw.size))
      have l1 := lt_of_block XN.out
      have q0 := bxc XN.out 0 _ rfl
      have q1 := bxc XN.out 1 _ rfl
      have q2 := bxc XN.out 2 _ rfl
      have q3 := bxc XN.out 3 _ rfl
      clear hbw hu hA bj
      go_wp2_with fail
      clear q0 q1 q2 q3 l1
      generalize wr.alloc (.cells #[.int .i64 (tX ts j).lv, .slice V' m' d', .slice U' k' e', .int .i64 (tX ts j).sum] 56) = w4 at *
      refine (indexOfTable_any (some ad) V' U' n c m' d' k' e' ts (tX ts j) _ HA.out HU.out).mono ?_
      rintro e w5 ⟨rfl, b5⟩
      have HW5 := Lib.hid (HW.out.trans (b5.mono HW.out.size))
      have HD := Lib.hid (show difAt ts j = (fndT ts (tX ts j) == (j : Int)) from rfl)
      have HS := Lib.hid (fun h => allTo_succ (p := difAt ts) hf.out h)
      have HN := Lib.hid (fun (h : difAt ts j = false) => show false = difB ts by unfold difB; rw [hl.out, allTo_no hlt h])
      clear c0 c1 c2 c3 b5 HW XN HU HA
      generalize fndT ts (tX ts j) = x at *
      by_cases hx : x = (j : Int)
      · have HF := Lib.hid (HS.out (by rw [HD.out]; simpa using hx))
        have hq : (x != (j : Int)) = false := by simpa using hx
        clear hx HD HS HN
        go_wp2
        go_roundw
        case rel => exact ⟨j + 1, by omega, by go_num, HF, HW5.out⟩
        case measure => simp [intOf]; omega
      · have R := Lib.hid (HN.out (by rw [HD.out]; simpa using hx))
        have hq : (x != (j : Int)) = true := by simpa using hx
        clear hx HD HS HN
        go_wp2
        go_ret
        exact ⟨ret_bool R.out, HW5.out⟩
    · obtain rfl : j = n := by omega
      have R := Lib.hid (show true = difB ts by unfold difB; rw [hl.out]; exact hf.out.symm)
      clear hA
      go_wp2
      go_ret
      exact ⟨ret_bool R.out, hbw⟩
end Go.Proofs.YtfanpbfmnckmnaaGreat
