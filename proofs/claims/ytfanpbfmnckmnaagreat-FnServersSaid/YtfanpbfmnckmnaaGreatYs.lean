/- Several small texts in one: DgJ, DgK. -/
import Derived.Test.YtfanpbfmnckmnaaGreatYr
import Derived.Test.YtfanpbfmnckmnaaGreatYj
import Derived.Test.YtfanpbfmnckmnaaGreatTbsA
import Derived.Deep.RegionHeld3
import Derived.Test.YtfanpbfmnckmnaaGreatYm
import Derived.Test.YtfanpbfmnckmnaaGreatYk
namespace Go.Proofs.YtfanpbfmnckmnaaGreat

section
open Go.RowKit

/-- A row of tables of the call's own; the rows in them are of its own too, and may be shared. -/
structure DTl (w : World) (lo : Nat) (A : Option Addr) (n c : Nat) (ts : List TabD) : Prop where
  len : ts.length = n
  cells : ∃ ys, w.ownsRow lo 56 4 (.slice A n c) n ys ∧ ∀ j, j < n → ∃ (V : Option Addr) (m cv : Nat) (U : Option Addr) (k cu : Nat), ys[j * 4]? = some (.int .i64 (tX ts j).lv) ∧ ys[j * 4 + 1]? = some (.slice V m cv) ∧ ys[j * 4 + 2]? = some (.slice U k cu) ∧ ys[j * 4 + 3]? = some (.int .i64 (tX ts j).sum) ∧ OwnI w lo w.heap.size V m cv (tX ts j).vars ∧ OwnI w lo w.heap.size U k cu (tX ts j).wh
section
variable {w w' : World} {A : Option Addr} {n c lo : Nat} {ts : List TabD}
theorem DTl.nil_ {w : World} {lo : Nat} : DTl w lo none 0 0 [] := ⟨rfl, [], World.ownsRow_nil _ _ _ _, fun j hj => absurd hj (by omega)⟩
theorem DTl.chg {g : Nat} (h : DTl w lo A n c ts) (hc : Chg g (g + 1) w w') (hg : g < lo) : DTl w' lo A n c ts := by
  obtain ⟨ys, h1, h2⟩ := h.cells
  refine ⟨h.len, ys, row_chg h1 hc hg, fun j hj => ?_⟩
  obtain ⟨V, m, cv, U, k, cu, e0, e1, e2, e3, hv, hu⟩ := h2 j hj
  exact ⟨V, m, cv, U, k, cu, e0, e1, e2, e3, hv.chgT hc hg, hu.chgT hc hg⟩
theorem OwnI.belT {V : Option Addr} {m cv : Nat} {xs : List Int} (h : OwnI w lo w.heap.size V m cv xs) (hb : Below w.heap.size w w') : OwnI w' lo w'.heap.size V m cv xs :=
  ⟨(h.below hb).own, fun k hk => Nat.lt_of_lt_of_le (h.top k hk) hb.size, h.small⟩
theorem DTl.below (h : DTl w lo A n c ts) (hb : Below w.heap.size w w') : DTl w' lo A n c ts := by
  obtain ⟨ys, h1, h2⟩ := h.cells
  refine ⟨h.len, ys, row_below h1 hb, fun j hj => ?_⟩
  obtain ⟨V, m, cv, U, k, cu, e0, e1, e2, e3, hv, hu⟩ := h2 j hj
  exact ⟨V, m, cv, U, k, cu, e0, e1, e2, e3, hv.belT hb, hu.belT hb⟩
theorem DTl.mono {lo' : Nat} (h : DTl w lo A n c ts) (hl : lo' ≤ lo) : DTl w lo' A n c ts := by
  obtain ⟨ys, h1, h2⟩ := h.cells
  refine ⟨h.len, ys, row_mono h1 hl, fun j hj => ?_⟩
  obtain ⟨V, m, cv, U, k, cu, e0, e1, e2, e3, hv, hu⟩ := h2 j hj
  exact ⟨V, m, cv, U, k, cu, e0, e1, e2, e3, ⟨hv.own.mono hl, hv.top, hv.small⟩, ⟨hu.own.mono hl, hu.top, hu.small⟩⟩
theorem DTl.tabs (h : DTl w lo A n c ts) (hn : n ≤ 1099511627776) : TabsR w A n ts := by
  obtain ⟨ys, ho, h2⟩ := h.cells
  refine ⟨h.len, hn, fun hn0 => ?_⟩
  obtain ⟨g, rfl, _, _⟩ := row_head ho hn0
  have hl := ho.1
  refine ⟨_, rfl, fun j hj => ?_⟩
  obtain ⟨V, m, cv, U, k, cu, e0, e1, e2, e3, hv, hu⟩ := h2 j hj
  rw [addr_add0]
  exact ⟨V, m, cv, U, k, cu, (World.ownsRow.cellAt ho (j * 4) (by omega)).trans e0, (World.ownsRow.cellAt ho (j * 4 + 1) (by omega)).trans e1, (World.ownsRow.cellAt ho (j * 4 + 2) (by omega)).trans e2, (World.ownsRow.cellAt ho (j * 4 + 3) (by omega)).trans e3, hv.intR, hu.intR⟩
theorem DTl.row_ge (h : DTl w lo A n c ts) : ∀ k, rowOf A = some k → lo ≤ k ∧ k < w.heap.size := by
  obtain ⟨ys, ho, _⟩ := h.cells
  exact Go.Proofs.YtfanpbfmnckmnaaGreat.row_ge ho
/-- Another block than the row of tables. -/
theorem DTl.ne_row {V : Option Addr} {m cv B k : Nat} {xs : List Int} (h : DTl w lo A n c ts) (hv : Own w B V m cv xs) (e : rowOf V = some k) : rowOf A ≠ some k := by
  obtain ⟨ys, ho, _⟩ := h.cells
  exact row_ne2 hv ho (by decide) e
theorem DTl.ne_box {k : Nat} {cs : Array Value} {T : TypeId} (h : DTl w lo A n c ts) (hk : w.heap[k]? = some (.cells cs T (0, 0))) (hT : T ≠ 56) : rowOf A ≠ some k := by
  obtain ⟨ys, ho, _⟩ := h.cells
  intro e
  rcases ho.2 with ⟨h0, _⟩ | ⟨g', cap, cur, hv, _, hg, _⟩
  · injection h0 with h0; subst h0; cases e
  · injection hv with hv
    subst hv
    simp only [rowOf, Option.some.injEq] at e
    subst e
    rw [hg] at hk
    injection hk with hk
    injection hk with _ ht
    exact hT ht.symm
theorem DTl.rows (h : DTl w lo A n c ts) : ∃ ys, w.ownsRow lo 56 4 (.slice A n c) n ys := by
  obtain ⟨ys, ho, _⟩ := h.cells
  exact ⟨ys, ho⟩
theorem tX_old {ts : List TabD} {t : TabD} {j : Nat} (h : j < ts.length) : tX (ts ++ [t]) j = tX ts j := by
  unfold tX
  rw [List.getElem?_append_left h]
theorem tX_new {ts : List TabD} {t : TabD} : tX (ts ++ [t]) ts.length = t := by
  unfold tX
  simp
/-- One table more. -/
theorem DTl.snoc {A2 V U : Option Addr} {c2 m cv k cu : Nat} {t : TabD} {ys : List Value} (h : DTl w lo A n c ts) (hy : w.ownsRow lo 56 4 (.slice A n c) n ys) (hv : OwnI w lo w.heap.size V m cv t.vars) (hu : OwnI w lo w.heap.size U k cu t.wh)
    (hg : w.grownBy w' (rowOf A)) (hn : w'.ownsRow lo 56 4 (.slice A2 (n + 1) c2) (n + 1) (ys ++ [.int .i64 t.lv, .slice V m cv, .slice U k cu, .int .i64 t.sum])) : DTl w' lo A2 (n + 1) c2 (ts ++ [t]) := by
  obtain ⟨ys', ho, h2⟩ := h.cells
  have hlen := h.len
  obtain rfl : ys' = ys := by
    have nil : n = 0 → ys' = ys := fun h1 => by
      have l1 := ho.1; have l2 := hy.1
      rw [h1] at l1 l2
      exact (List.eq_nil_of_length_eq_zero (l1.trans (by simp))).trans (List.eq_nil_of_length_eq_zero (l2.trans (by simp))).symm
    rcases ho.2 with ⟨h0, h1⟩ | ⟨g, cap, cur, e, _, hg1, _, _, _, ht⟩
    · exact nil h1
    · rcases hy.2 with ⟨h0, h1⟩ | ⟨g', cap', cur', e', _, hg1', _, _, _, ht'⟩
      · exact nil h1
      · rw [e] at e'
        simp only [Value.slice.injEq, Option.some.injEq, Addr.mk.injEq, and_true, true_and] at e'
        obtain ⟨rfl, rfl⟩ := e'
        rw [hg1] at hg1'
        injection hg1' with hg1'
        injection hg1' with hg1' _
        rw [← ht, ← ht', hg1']
  have hl := hy.1
  have far : ∀ {V : Option Addr} {m cv : Nat} {xs : List Int}, OwnI w lo w.heap.size V m cv xs → OwnI w' lo w'.heap.size V m cv xs := fun {V m cv xs} hv => by
    refine OwnI.of_own (hv.own.far hg fun g hA e => ?_) hv.small
    exact row_ne2 hv.own hy (by decide) (by rw [hA]; rfl) e
  refine ⟨by simp [hlen], _, hn, fun j hj => ?_⟩
  rcases Nat.lt_or_ge j n with h3 | h3
  · obtain ⟨V, m, cv, U, k, cu, e0, e1, e2, e3, hv, hu⟩ := h2 j h3
    rw [tX_old (by omega)]
    exact ⟨V, m, cv, U, k, cu, by rw [List.getElem?_append_left (by omega)]; exact e0, by rw [List.getElem?_append_left (by omega)]; exact e1, by rw [List.getElem?_append_left (by omega)]; exact e2, by rw [List.getElem?_append_left (by omega)]; exact e3, far hv, far hu⟩
  · obtain rfl : j = ts.length := by omega
    rw [tX_new]
    subst hlen
    refine ⟨V, m, cv, U, k, cu, ?_, ?_, ?_, ?_, far hv, far hu⟩
    · rw [List.getElem?_append_right (by omega), hl, Nat.sub_self]; rfl
    · rw [List.getElem?_append_right (by omega), hl]; simp [show ts.length * 4 + 1 - ts.length * 4 = 1 by omega]
    · rw [List.getElem?_append_right (by omega), hl]; simp [show ts.length * 4 + 2 - ts.length * 4 = 2 by omega]
    · rw [List.getElem?_append_right (by omega), hl]; simp [show ts.length * 4 + 3 - ts.length * 4 = 3 by omega]
end

set_option maxRecDepth 100000 in
set_option maxHeartbeats 4000000 in
theorem jTable_any (V U : Option Addr) (m d k e : Nat) (t : TabD) (w : World) (ht : TabR w V m U k t) (hm : m ≤ 1000000) (hk : k ≤ 1000000) :
    Calls Tryz.prog 150 #[.agg #[.int .i64 t.lv, .slice V m d, .slice U k e, .int .i64 t.sum]] w fun e w' => ∃ (V' : Option Addr) (cv : Nat) (U' : Option Addr) (cu : Nat), e = .returned (.agg #[.int .i64 t.lv, .slice V' m cv, .slice U' k cu, .int .i64 t.sum]) ∧ OwnI w' w.heap.size w'.heap.size V' m cv t.vars ∧ OwnI w' w.heap.size w'.heap.size U' k cu t.wh ∧ (∀ r, rowOf U' = some r → rowOf V' ≠ some r) ∧ Below w.heap.size w w' := by
  obtain ⟨b0, x1, x2⟩ := box_two w #[.int .i64 t.lv, .slice V m d, .slice U k e, .int .i64 t.sum] #[.int .i64 0, .slice none 0 0, .slice none 0 0, .int .i64 0] 56 56
  have HS := Lib.hid (show ((w.alloc (.cells #[.int .i64 t.lv, .slice V m d, .slice U k e, .int .i64 t.sum] 56)).alloc (.cells #[.int .i64 0, .slice none 0 0, .slice none 0 0, .int .i64 0] 56)).heap.size = w.heap.size + 1 + 1 by simp)
  have HT := Lib.hid (ht.below b0)
  clear ht
  go_enter Tryz.func150, Tryz.ntmps150
  go_wp2_with fail
  generalize ((w.alloc (.cells #[.int .i64 t.lv, .slice V m d, .slice U k e, .int .i64 t.sum] 56)).alloc (.cells #[.int .i64 0, .slice none 0 0, .slice none 0 0, .int .i64 0] 56)) = w1 at *
  have l1 := lt_of_block x1
  have l2 := lt_of_block x2
  have c10 := bxc x1 0 (.int .i64 t.lv) rfl
  have c11 := bxc x1 1 (.slice V m d) rfl
  have c12 := bxc x1 2 (.slice U k e) rfl
  have c13 := bxc x1 3 (.int .i64 t.sum) rfl
  have X1 := Lib.hid x1
  have X2 := Lib.hid x2
  have BD := Lib.hid (show Below w1.heap.size w1 w1.drew from (Below.refl _ _).drew)
  have tok1 : True := trivial
  clear x1 x2
  go_region_held3 (fun w' => w'.cell? ⟨w.heap.size, 0, none⟩ = some (.int .i64 t.lv) ∧ w'.cell? ⟨w.heap.size, 1, none⟩ = some (.slice V m d) ∧ w'.cell? ⟨w.heap.size, 2, none⟩ = some (.slice U k e) ∧ w'.cell? ⟨w.heap.size, 3, none⟩ = some (.int .i64 t.sum)) (first | exact ⟨c10, c11, c12, c13⟩ | exact ⟨c20, c21, c22, c23⟩ | exact ⟨c30, c31, c32, c33⟩ | go_keep) ((first | (go_at_call 151; have _t := tok1; refine (l1Own_any V m d t.vars _ (by exact (HT.out.v.below BD.out).i) (by omega)).mono ?_; rintro e2 w2 ⟨V', cv, rfl, o2, b2⟩; have b2' : Below w1.heap.size w1 w2 := (by first | exact b2 | exact BD.out.trans b2); have O2 : Hid (OwnI w2 w1.heap.size w2.heap.size V' m cv t.vars) := Lib.hid (by exact o2); have X12 := Lib.hid (bxb X1.out b2'); have X22 := Lib.hid (bxb X2.out b2'); have c20 := bxc X12.out 0 (.int .i64 t.lv) rfl; have c21 := bxc X12.out 1 (.slice V m d) rfl; have c22 := bxc X12.out 2 (.slice U k e) rfl; have c23 := bxc X12.out 3 (.int .i64 t.sum) rfl; have B2 := Lib.hid b2'; clear b2 b2' o2 tok1 _t) | (go_at_call 151; refine (l1Own_any U k e t.wh _ (by exact (HT.out.u.below B2.out).i) (by omega)).mono ?_; rintro e3 w3 ⟨U', cu, rfl, o3, b3⟩; have O3 := Lib.hid o3; have O2' := Lib.hid (O2.out.belT b3); have X13 := Lib.hid (bxb X12.out b3); have X23 := Lib.hid (bxb X22.out b3); have c30 := bxc X13.out 0 (.int .i64 t.lv) rfl; have c31 := bxc X13.out 1 (.slice V m d) rfl; have c32 := bxc X13.out 2 (.slice U k e) rfl; have c33 := bxc X13.out 3 (.int .i64 t.sum) rfl; have z3 := b3.size; have B3 := Lib.hid (B2.out.trans (b3.mono B2.out.size)); have d0 := bxc X23.out 0 _ rfl; have d1 := bxc X23.out 1 _ rfl; have d2 := bxc X23.out 2 _ rfl; have d3 := bxc X23.out 3 _ rfl; have f0 := bxf X23.out 0; have f1 := bxf X23.out 1; have f2 := bxf X23.out 2; have f3 := bxf X23.out 3; have l23 := lt_of_block X23.out; clear b3 o3) | fail))
  clear c10 c11 c12 c13 c20 c21 c22 c23 c30 c31 c32 c33 X1 X2 HT BD X12 X22 X13 l1 l2
  have tt := box_set (box_set (box_set (box_set X23.out 0 (.int .i64 t.lv)) 1 (.slice V' m cv)) 2 (.slice U' k cu)) 3 (.int .i64 t.sum)
  have r0 := bxc tt 0 (.int .i64 t.lv) rfl
  have r1 := bxc tt 1 (.slice V' m cv) rfl
  have r2 := bxc tt 2 (.slice U' k cu) rfl
  have r3 := bxc tt 3 (.int .i64 t.sum) rfl
  have hs1 := HS.out
  have z2 := B2.out.size
  have K := Lib.hid ((((Chg.refl (w.heap.size + 1) (w.heap.size + 1 + 1) w3).set (g := w.heap.size + 1) (i := 0) (v := .int .i64 t.lv) (by omega) (by omega)).set (g := w.heap.size + 1) (i := 1) (v := .slice V' m cv) (by omega) (by omega)).set (g := w.heap.size + 1) (i := 2) (v := .slice U' k cu) (by omega) (by omega) |>.set (g := w.heap.size + 1) (i := 3) (v := .int .i64 t.sum) (by omega) (by omega))
  have q2 : w.heap.size + 1 + 1 ≤ w2.heap.size := by omega
  have q1 : w.heap.size + 1 + 1 ≤ w1.heap.size := by omega
  clear tt hs1
  go_wp2
  refine bodyPost_ret (v := .agg #[.int .i64 t.lv, .slice V' m cv, .slice U' k cu, .int .i64 t.sum]) (by simp [results, Tryz.results150, go_sem, r0, r1, r2, r3]) rfl ⟨V', cv, U', cu, rfl, (O2'.out.chg K.out (.inr (by omega))).fit (by omega), (O3.out.chg K.out (.inr (by omega))).fit (by omega), fun r h1 h2 => ?_, (((((b0.trans (B3.out.mono b0.size)).setCell (by simp) _).setCell (by simp) _).setCell (by simp) _).setCell (by simp) _)⟩
  have a1 := (O3.out.own.row_ge r h1).1
  have a2 := O2.out.top r h2
  omega
theorem DTl.cap {w : World} {A : Option Addr} {n c lo : Nat} {ts : List TabD} (h : DTl w lo A n c ts) : n ≤ c := by
  obtain ⟨ys, ho, _⟩ := h.cells
  rcases ho.2 with ⟨h0, h1⟩ | ⟨g, cap, cur, e, _, _, hc, _⟩
  · injection h0 with _ _ h2; omega
  · injection e with _ _ h2; omega
theorem take_tX {ts : List TabD} {k : Nat} (h : k < ts.length) : ts.take (k + 1) = ts.take k ++ [tX ts k] := by
  rw [List.take_succ_eq_append_getElem h]
  unfold tX
  rw [List.getElem?_eq_getElem h]
  rfl

set_option maxRecDepth 100000 in
set_option maxHeartbeats 4000000 in
theorem jTables_any (A : Option Addr) (n c : Nat) (ts : List TabD) (w : World) (hA : TabsR w A n ts) (hs : ∀ j, j < n → (tX ts j).vars.length ≤ 1000000 ∧ (tX ts j).wh.length ≤ 1000000) :
    Calls Tryz.prog 149 #[.slice A n c] w fun e w' => ∃ (A' : Option Addr) (c' : Nat), e = .returned (.slice A' n c') ∧ DTl w' w.heap.size A' n c' ts ∧ Below w.heap.size w w' := by
  obtain ⟨i0, hi, hz0, hz1, hz2⟩ := info_parts Tryz.infoTable
  have HA := Lib.hid hA
  have HL := Lib.hid hs
  have hn := hA.bd
  clear hA hs
  go_enter Tryz.func149, Tryz.ntmps149
  go_wp2_with fail
  go_loopw [3, 8] (fun a i wr => ∃ (k : Nat) (E : Option Addr) (ce : Nat), i = .int .i64 k ∧ a = .slice E k ce ∧ k ≤ n ∧ DTl wr w.heap.size E k ce (ts.take k) ∧ Below w.heap.size w wr) (fun _ i _ => n - (intOf i).toNat)
  case atStart => exact ⟨0, none, 0, rfl, rfl, Nat.zero_le _, DTl.nil_, Below.refl _ _⟩
  case round =>
    obtain ⟨k, E, ce, rfl, rfl, hk, hD, hB⟩ := hrel
    obtain ⟨wo, rfl⟩ : ∃ wo : World, wo = wr := ⟨_, rfl⟩
    have hz := hB.size
    by_cases hlt : k < n
    · obtain ⟨ad, rfl, V, m, d, U, q, e, hc0, hc1, hc2, hc3, ht⟩ := (HA.out.below hB).at_ hlt
      have hm : m ≤ 1000000 := by have h1 := (HL.out k hlt).1; rw [ht.v.i.1] at h1; exact h1
      have hq : q ≤ 1000000 := by have h1 := (HL.out k hlt).2; rw [ht.u.i.1] at h1; exact h1
      have b1 := below_new wo (.cells #[.int .i64 (tX ts k).lv, .slice V m d, .slice U q e, .int .i64 (tX ts k).sum] 56)
      have x1 := box_new wo #[.int .i64 (tX ts k).lv, .slice V m d, .slice U q e, .int .i64 (tX ts k).sum] 56
      have HT := Lib.hid (ht.below b1)
      have HD := Lib.hid (hD.below b1)
      have HB := Lib.hid (hB.trans (b1.mono hz))
      have z1 := b1.size
      clear ht hD hB b1
      go_wp2_with fail
      refine (jTable_any V U m d q e (tX ts k) _ HT.out hm hq).mono ?_
      rintro e5 w5 ⟨V', cv, U', cu, rfl, oV, oU, _, b5⟩
      have z5 := b5.size
      have V6 := Lib.hid (oV.fit (show w.heap.size ≤ (wo.alloc (.cells #[.int .i64 (tX ts k).lv, .slice V m d, .slice U q e, .int .i64 (tX ts k).sum] 56)).heap.size by omega))
      have U6 := Lib.hid (oU.fit (show w.heap.size ≤ (wo.alloc (.cells #[.int .i64 (tX ts k).lv, .slice V m d, .slice U q e, .int .i64 (tX ts k).sum] 56)).heap.size by omega))
      have D6 := Lib.hid (HD.out.below b5)
      have B6 := Lib.hid (HB.out.trans (b5.mono HB.out.size))
      obtain ⟨ys6, ho6⟩ := D6.out.rows
      have hrow6 : ∀ j, rowOf E = some j → w.heap.size ≤ j := fun j hj => (D6.out.row_ge j hj).1
      have hz6 : w.heap.size ≤ w5.heap.size := by omega
      clear HT HD HB oV oU b5 x1 hc0 hc1 hc2 hc3
      go_wp2_with (at_builtin; refine wp_appG (cs := #[.int .i64 (tX ts k).lv, .slice V' m cv, .slice U' q cu, .int .i64 (tX ts k).sum]) rfl _ _ rfl Tryz.underlying39 hi hz0 hz1 hz2 rfl (by omega) (by omega) rfl (by simp [Value.oneCell']) w.heap.size E k ce ys6 rfl ho6 _ rfl (by simp) (by omega) (by omega) ?_; intro A7 c7 w7 own7 grow7 _; have D7 := Lib.hid (DTl.snoc (t := tX ts k) D6.out ho6 V6.out U6.out grow7 own7); have B7 := Lib.hid (B6.out.grown grow7 (by omega) hrow6))
      go_roundw
      case rel => exact ⟨k + 1, A7, c7, by go_num, rfl, by omega, by rw [take_tX (by have := HA.out.len; omega)]; exact D7.out, B7.out⟩
      case measure => simp [intOf]; omega
    · obtain rfl : k = n := by omega
      have hl := HA.out.len
      go_wp2
      go_ret
      refine ⟨E, ce, rfl, ?_, hB⟩
      rw [List.take_of_length_le (by omega)] at hD
      exact hD
end

section
open Go.RowKit

section
variable {D : SvD} {t : TabD}
/-- The answered tables after a table was asked; its cells. -/
def askedV (D : SvD) (t : TabD) : List TabD := if codeV D D.asked t = 0 then (if fndT D.asked t < 0 then D.asked ++ [t] else D.asked) else D.asked
def cellsA (D : SvD) (t : TabD) : List Int := if codeV D D.asked t = 0 then D.tbl t else []
theorem asked_1 (h : ¬ codeV D D.asked t = 0) : askedV D t = D.asked := if_neg h
theorem asked_2 (h : codeV D D.asked t = 0) (h2 : fndT D.asked t < 0) : askedV D t = D.asked ++ [t] := by unfold askedV; rw [if_pos h, if_pos h2]
theorem asked_3 (h : codeV D D.asked t = 0) (h2 : ¬ fndT D.asked t < 0) : askedV D t = D.asked := by unfold askedV; rw [if_pos h, if_neg h2]
theorem cells_1 (h : ¬ codeV D D.asked t = 0) : cellsA D t = [] := if_neg h
theorem cells_2 (h : codeV D D.asked t = 0) : cellsA D t = D.tbl t := if_pos h
theorem tab_len (hO : SurOk D) (h : tabB D.par D.vs t = true) : t.vars.length ≤ 1000000 ∧ t.wh.length ≤ 1000000 := by
  have h1 := tabB_ok hO.g hO.s h
  have h2 := h1.part.six
  have h3 := (whB_of h1.wh).1
  have h4 := (schB_of hO.s).1
  omega
end
section
variable {w w' : World} {A : Option Addr} {n c lo b : Nat} {ts : List TabD} {cs : Array Value} {T : TypeId}
theorem OwnI.off {V : Option Addr} {m cv : Nat} {xs : List Int} (h : OwnI w lo w.heap.size V m cv xs) (hb : w.heap[b]? = some (.cells cs T (0, 0))) (hT : T ≠ 3) (hw : ∀ k, k ≠ b → w'.heap[k]? = w.heap[k]?) (hz : w'.heap.size = w.heap.size) : OwnI w' lo w'.heap.size V m cv xs :=
  ⟨h.own.keep fun g hA _ => hw g (fun e => own_ne h.own hb hT (by rw [hA, e]; rfl)), fun k hk => by rw [hz]; exact h.top k hk, h.small⟩
/-- A row of tables is kept by stores into a box. -/
theorem DTl.off (h : DTl w lo A n c ts) (hb : w.heap[b]? = some (.cells cs T (0, 0))) (hT : T ≠ 3) (hT2 : T ≠ 56) (hw : ∀ k, k ≠ b → w'.heap[k]? = w.heap[k]?) (hz : w'.heap.size = w.heap.size) : DTl w' lo A n c ts := by
  have hne := h.ne_box hb hT2
  obtain ⟨ys, ho, h2⟩ := h.cells
  refine ⟨h.len, ys, row_keep ho fun k _ hA _ => hw k (fun e => hne (by rw [hA, e])), fun j hj => ?_⟩
  obtain ⟨V, m, cv, U, k, cu, e0, e1, e2, e3, hv, hu⟩ := h2 j hj
  exact ⟨V, m, cv, U, k, cu, e0, e1, e2, e3, hv.off hb hT hw hz, hu.off hb hT hw hz⟩
end
theorem puts_box {b : Nat} {T : TypeId} : ∀ (l : List (Nat × Value)) (w : World) (cs : Array Value), w.heap[b]? = some (.cells cs T (0, 0)) → (puts w b l).heap[b]? = some (.cells (l.foldl (fun c p => c.setIfInBounds p.1 p.2) cs) T (0, 0)) := by
  intro l
  induction l with
  | nil => intro w cs h; exact h
  | cons p l ih => intro w cs h; exact ih (w.setCell ⟨b, p.1, none⟩ p.2) _ (box_set h p.1 p.2)
theorem fill14 {w : World} {b : Nat} {T : TypeId} {x0 x1 x2 x3 x4 x5 x6 x7 x8 x9 x10 x11 x12 x13 y0 y1 y2 y3 y4 y5 y6 y7 y8 y9 y10 y11 y12 y13 : Value} (h : w.heap[b]? = some (.cells #[x0, x1, x2, x3, x4, x5, x6, x7, x8, x9, x10, x11, x12, x13] T (0, 0))) :
    (puts w b [(0, y0), (1, y1), (2, y2), (3, y3), (4, y4), (5, y5), (6, y6), (7, y7), (8, y8), (9, y9), (10, y10), (11, y11), (12, y12), (13, y13)]).heap[b]? = some (.cells #[y0, y1, y2, y3, y4, y5, y6, y7, y8, y9, y10, y11, y12, y13] T (0, 0)) := by
  rw [puts_box _ _ _ h]
  simp
theorem puts14 {w : World} {b : Nat} {y0 y1 y2 y3 y4 y5 y6 y7 y8 y9 y10 y11 y12 y13 : Value} : puts w b [(0, y0), (1, y1), (2, y2), (3, y3), (4, y4), (5, y5), (6, y6), (7, y7), (8, y8), (9, y9), (10, y10), (11, y11), (12, y12), (13, y13)] = ((((((((((((((w).setCell ⟨b, 0, none⟩ y0).setCell ⟨b, 1, none⟩ y1).setCell ⟨b, 2, none⟩ y2).setCell ⟨b, 3, none⟩ y3).setCell ⟨b, 4, none⟩ y4).setCell ⟨b, 5, none⟩ y5).setCell ⟨b, 6, none⟩ y6).setCell ⟨b, 7, none⟩ y7).setCell ⟨b, 8, none⟩ y8).setCell ⟨b, 9, none⟩ y9).setCell ⟨b, 10, none⟩ y10).setCell ⟨b, 11, none⟩ y11).setCell ⟨b, 12, none⟩ y12).setCell ⟨b, 13, none⟩ y13 := rfl
theorem far14 {w : World} {b k : Nat} {o : Obj} {y0 y1 y2 y3 y4 y5 y6 y7 y8 y9 y10 y11 y12 y13 : Value} (h : w.heap[k]? = some o) (hk : k ≠ b) : (((((((((((((((w).setCell ⟨b, 0, none⟩ y0).setCell ⟨b, 1, none⟩ y1).setCell ⟨b, 2, none⟩ y2).setCell ⟨b, 3, none⟩ y3).setCell ⟨b, 4, none⟩ y4).setCell ⟨b, 5, none⟩ y5).setCell ⟨b, 6, none⟩ y6).setCell ⟨b, 7, none⟩ y7).setCell ⟨b, 8, none⟩ y8).setCell ⟨b, 9, none⟩ y9).setCell ⟨b, 10, none⟩ y10).setCell ⟨b, 11, none⟩ y11).setCell ⟨b, 12, none⟩ y12).setCell ⟨b, 13, none⟩ y13).heap[k]? = some o := by
  rw [← puts14, puts_ne _ _ hk]; exact h
theorem fill14n {w : World} {b : Nat} {T : TypeId} {x0 x1 x2 x3 x4 x5 x6 x7 x8 x9 x10 x11 x12 x13 y0 y1 y2 y3 y4 y5 y6 y7 y8 y9 y10 y11 y12 y13 : Value} (h : w.heap[b]? = some (.cells #[x0, x1, x2, x3, x4, x5, x6, x7, x8, x9, x10, x11, x12, x13] T (0, 0))) :
    (((((((((((((((w).setCell ⟨b, 0, none⟩ y0).setCell ⟨b, 1, none⟩ y1).setCell ⟨b, 2, none⟩ y2).setCell ⟨b, 3, none⟩ y3).setCell ⟨b, 4, none⟩ y4).setCell ⟨b, 5, none⟩ y5).setCell ⟨b, 6, none⟩ y6).setCell ⟨b, 7, none⟩ y7).setCell ⟨b, 8, none⟩ y8).setCell ⟨b, 9, none⟩ y9).setCell ⟨b, 10, none⟩ y10).setCell ⟨b, 11, none⟩ y11).setCell ⟨b, 12, none⟩ y12).setCell ⟨b, 13, none⟩ y13).heap[b]? = some (.cells #[y0, y1, y2, y3, y4, y5, y6, y7, y8, y9, y10, y11, y12, y13] T (0, 0)) := by
  rw [← puts14]; exact fill14 h
theorem cntV_bd {ps : List Int} {vs : List (ByteArray × Int)} {t : TabD} {n : Nat} (h : TabOk ps vs t ps.length n) : (cntV ps vs t).toNat ≤ 600 := by
  have h1 := h.most
  unfold cntV
  omega
/-- What asking gives back. -/
def JAsk (P A Z Y Q : Option Addr) (q cq g cg n c m cm p cp : Nat) (D : SvD) (t : TabD) (lo : Nat) (w : World) (e : Ending) (w' : World) : Prop := ∃ (Q' : Option Addr) (q' cq' : Nat) (B : Option Addr) (nb cb : Nat), e = .returned (.tuple #[.agg #[.slice P g cg, .slice A n c, .slice Z m cm, .slice Y p cp, .int .i64 D.cost.a, .int .i64 D.cost.b, .int .i64 D.cost.c, .int .i64 D.cost.d, .int .i64 D.bud.a, .int .i64 D.bud.b, .int .i64 D.bud.c, .int .i64 D.bud.d, .int .i64 D.floor, .slice Q' q' cq'], .slice B nb cb, .int .i64 (codeV D D.asked t)]) ∧ DTl w' lo Q' q' cq' (askedV D t) ∧ OwnI w' w.heap.size w'.heap.size B nb cb (cellsA D t) ∧ Below w.heap.size w w' ∧ (∀ r, rowOf Q' = some r → rowOf Q = some r ∨ w.heap.size ≤ r) ∧ ((Q' = Q ∧ q' = q ∧ cq' = cq ∧ askedV D t = D.asked) ∨ DTl w' w.heap.size Q' q' cq' (askedV D t))

set_option maxRecDepth 100000 in
set_option maxHeartbeats 4000000 in
theorem jAsk_any (P A Z Y Q : Option Addr) (g cg n c m cm p cp q cq : Nat) (D : SvD) (V U : Option Addr) (tm td tk te : Nat) (t : TabD) (lo : Nat) (w : World) (hO : SurOk D) (hc : LosOk D.cost) (hb : LosOk D.bud) (hts : ∀ j, j < q → tabB D.par D.vs (tX D.asked j) = true) (hR : SurR w P A Z g n c m D) (hT : TabR w V tm U tk t) (hP : TabsR w Y p D.plan) (hQ : DTl w lo Q q cq D.asked) (hlo : lo ≤ w.heap.size) (hq : q ≤ 1000000) :
    Calls Tryz.prog 93 #[.agg #[.slice P g cg, .slice A n c, .slice Z m cm, .slice Y p cp, .int .i64 D.cost.a, .int .i64 D.cost.b, .int .i64 D.cost.c, .int .i64 D.cost.d, .int .i64 D.bud.a, .int .i64 D.bud.b, .int .i64 D.bud.c, .int .i64 D.bud.d, .int .i64 D.floor, .slice Q q cq], .agg #[.int .i64 t.lv, .slice V tm td, .slice U tk te, .int .i64 t.sum]] w (JAsk P A Z Y Q q cq g cg n c m cm p cp D t lo w) := by
  obtain ⟨i0, hi, hz0, hz1, hz2⟩ := info_parts Tryz.infoTable
  obtain ⟨b0, xs, xt, xr, hsz⟩ := box_three w #[.slice P g cg, .slice A n c, .slice Z m cm, .slice Y p cp, .int .i64 D.cost.a, .int .i64 D.cost.b, .int .i64 D.cost.c, .int .i64 D.cost.d, .int .i64 D.bud.a, .int .i64 D.bud.b, .int .i64 D.bud.c, .int .i64 D.bud.d, .int .i64 D.floor, .slice Q q cq] #[.int .i64 t.lv, .slice V tm td, .slice U tk te, .int .i64 t.sum] #[.slice none 0 0, .slice none 0 0, .slice none 0 0, .slice none 0 0, .int .i64 0, .int .i64 0, .int .i64 0, .int .i64 0, .int .i64 0, .int .i64 0, .int .i64 0, .int .i64 0, .int .i64 0, .slice none 0 0] 44 56 44
  have HS := Lib.hid hsz
  have HO := Lib.hid hO
  have HTS := Lib.hid hts
  have HR0 := Lib.hid hR
  have HT0 := Lib.hid hT
  have HR := Lib.hid (hR.below b0)
  have HT := Lib.hid (hT.below b0)
  have HP := Lib.hid (hP.below b0)
  have HQ := Lib.hid (hQ.below b0)
  have Xs := Lib.hid xs
  have Xt := Lib.hid xt
  have Xr := Lib.hid xr
  have HB := Lib.hid b0
  clear xs xt xr hsz b0 hO hts hR hT hP hQ
  have ls := lt_of_block Xs.out
  have lt := lt_of_block Xt.out
  have cs0 := bxc Xs.out 0 _ rfl
  have cs1 := bxc Xs.out 1 _ rfl
  have cs2 := bxc Xs.out 2 _ rfl
  have cs3 := bxc Xs.out 3 _ rfl
  have cs4 := bxc Xs.out 4 _ rfl
  have cs5 := bxc Xs.out 5 _ rfl
  have cs6 := bxc Xs.out 6 _ rfl
  have cs7 := bxc Xs.out 7 _ rfl
  have cs8 := bxc Xs.out 8 _ rfl
  have cs9 := bxc Xs.out 9 _ rfl
  have cs10 := bxc Xs.out 10 _ rfl
  have cs11 := bxc Xs.out 11 _ rfl
  have cs12 := bxc Xs.out 12 _ rfl
  have cs13 := bxc Xs.out 13 _ rfl
  have ct0 := bxc Xt.out 0 _ rfl
  have ct1 := bxc Xt.out 1 _ rfl
  have ct2 := bxc Xt.out 2 _ rfl
  have ct3 := bxc Xt.out 3 _ rfl
  go_enter Tryz.func93, Tryz.ntmps93
  go_wp2_with fail
  generalize (((w.alloc (.cells #[.slice P g cg, .slice A n c, .slice Z m cm, .slice Y p cp, .int .i64 D.cost.a, .int .i64 D.cost.b, .int .i64 D.cost.c, .int .i64 D.cost.d, .int .i64 D.bud.a, .int .i64 D.bud.b, .int .i64 D.bud.c, .int .i64 D.bud.d, .int .i64 D.floor, .slice Q q cq] 44)).alloc (.cells #[.int .i64 t.lv, .slice V tm td, .slice U tk te, .int .i64 t.sum] 56)).alloc (.cells #[.slice none 0 0, .slice none 0 0, .slice none 0 0, .slice none 0 0, .int .i64 0, .int .i64 0, .int .i64 0, .int .i64 0, .int .i64 0, .int .i64 0, .int .i64 0, .int .i64 0, .int .i64 0, .slice none 0 0] 44)) = w1 at *
  refine (jCode_any P A Z Y Q g cg n c m cm p cp q cq D V U Q tm td tk te q cq t D.asked _ HO.out hc hb HTS.out HR.out HT.out HP.out (HQ.out.tabs (by omega))).mono ?_
  rintro e w2 ⟨rfl, b2⟩
  obtain ⟨K, hK⟩ : ∃ K, Hid (codeV D D.asked t = K) := ⟨_, Lib.hid rfl⟩
  rw [hK.out]
  have HR2 := Lib.hid (HR.out.below b2)
  have HT2 := Lib.hid (HT.out.below b2)
  have HQ2 := Lib.hid (HQ.out.below b2)
  have Xs2 := Lib.hid (bxb Xs.out b2)
  have Xt2 := Lib.hid (bxb Xt.out b2)
  have Xr2 := Lib.hid (bxb Xr.out b2)
  have HB2 := Lib.hid (HB.out.trans (b2.mono HB.out.size))
  have hw1 := HS.out
  have z2 := b2.size
  have hw2 : w.heap.size + 1 + 1 + 1 ≤ w2.heap.size := by omega
  clear HR HT HP HQ Xs Xt Xr HB b2 hw1 ls lt cs0 cs1 cs2 cs3 cs4 cs5 cs6 cs7 cs8 cs9 cs10 cs11 cs12 cs13 ct0 ct1 ct2 ct3
  by_cases hk : K = 0
  · subst hk
    have HO0 := Lib.hid (tab_len HO.out (code0_tab hK.out))
    have cs13 := bxc Xs2.out 13 _ rfl
    have lt := lt_of_block Xt2.out
    have ct0 := bxc Xt2.out 0 _ rfl
    have ct1 := bxc Xt2.out 1 _ rfl
    have ct2 := bxc Xt2.out 2 _ rfl
    have ct3 := bxc Xt2.out 3 _ rfl
    go_wp2_with fail
    refine (jFind_any Q V U q cq tm td tk te D.asked t _ (HQ2.out.tabs (by omega)) HT2.out).mono ?_
    rintro e w3 ⟨rfl, b3⟩
    obtain ⟨f, hf⟩ : ∃ f, Hid (fndT D.asked t = f) := ⟨_, Lib.hid rfl⟩
    rw [hf.out]
    have HR3 := Lib.hid (HR2.out.below b3)
    have HT3 := Lib.hid (HT2.out.below b3)
    have HQ3 := Lib.hid (HQ2.out.below b3)
    have Xs3 := Lib.hid (bxb Xs2.out b3)
    have Xt3 := Lib.hid (bxb Xt2.out b3)
    have Xr3 := Lib.hid (bxb Xr2.out b3)
    have HB3 := Lib.hid (HB2.out.trans (b3.mono HB2.out.size))
    have z3 := b3.size
    clear HR2 HT2 HQ2 Xs2 Xt2 Xr2 HB2 b3 cs13 lt ct0 ct1 ct2 ct3
    by_cases hf0 : f < 0
    · have hd : decide (f < 0) = true := by simpa using hf0
      have HF := Lib.hid hf0
      clear hf0
      have cs13 := bxc Xs3.out 13 _ rfl
      have f13 := bxf Xs3.out 13
      have ls := lt_of_block Xs3.out
      have lt := lt_of_block Xt3.out
      have ct0 := bxc Xt3.out 0 _ rfl
      have ct1 := bxc Xt3.out 1 _ rfl
      have ct2 := bxc Xt3.out 2 _ rfl
      have ct3 := bxc Xt3.out 3 _ rfl
      go_wp2_with fail
      go_region_law ((first | (go_simp; go_at_call 149; refine (jTables_any Q q cq D.asked _ ((HQ3.out.tabs (by omega)).below (Below.refl _ _).drew) (fun j hj => tab_len HO.out (HTS.out j hj))).mono ?_; rintro e w4 ⟨E, ce, rfl, hD4, b4⟩; have b4' : Below w3.heap.size w3 w4 := (Below.refl _ _).drew.trans b4; have HD4 : Hid (DTl w4 w3.heap.size E q ce D.asked) := Lib.hid hD4; have Xs4 := Lib.hid (bxb Xs3.out b4'); have Xt4 := Lib.hid (bxb Xt3.out b4'); have Xr4 := Lib.hid (bxb Xr3.out b4'); have HB4 := Lib.hid (HB3.out.trans (b4'.mono HB3.out.size)); have z4 := b4'.size; have lt4 := lt_of_block Xt4.out; have dt0 := bxc Xt4.out 0 _ rfl; have dt1 := bxc Xt4.out 1 _ rfl; have dt2 := bxc Xt4.out 2 _ rfl; have dt3 := bxc Xt4.out 3 _ rfl; clear hD4 b4 b4'; dsimp only) | (go_simp; go_at_call 150; refine (jTable_any V U tm td tk te t _ (HT0.out.below HB4.out) (by have h1 := HO0.out.1; rw [HT0.out.v.i.1] at h1; exact h1) (by have h1 := HO0.out.2; rw [HT0.out.u.i.1] at h1; exact h1)).mono ?_; rintro e w5 ⟨V', cv, U', cu, rfl, oV, oU, _, b5⟩; have HD5 := Lib.hid (HD4.out.below b5); have z5 := b5.size; have OV := Lib.hid (oV.fit (show w3.heap.size ≤ w4.heap.size by omega)); have OU := Lib.hid (oU.fit (show w3.heap.size ≤ w4.heap.size by omega)); have Xs5 := Lib.hid (bxb Xs4.out b5); have Xt5 := Lib.hid (bxb Xt4.out b5); have Xr5 := Lib.hid (bxb Xr4.out b5); have HB5 := Lib.hid (HB4.out.trans (b5.mono HB4.out.size)); obtain ⟨ys5, ho5⟩ := HD5.out.rows; have hz5 : w3.heap.size ≤ w5.heap.size := (by omega); clear oV oU b5; dsimp only) | (refine step_appG (cs := #[.int .i64 t.lv, .slice V' tm cv, .slice U' tk cu, .int .i64 t.sum]) (by rfl) _ _ (by rfl) Tryz.underlying39 hi hz0 hz1 hz2 rfl (by omega) (by omega) rfl (by simp [Value.oneCell']) w3.heap.size E q ce ys5 (by rfl) ho5 _ (by rfl) (by simp) (by omega) (by omega) ?_; intro A9 c9 w9 own9 grow9 _; have D9 := Lib.hid (DTl.snoc (t := t) HD5.out ho5 OV.out OU.out grow9 own9); have Xs9 := Lib.hid (box_app2 Xs5.out grow9 (HD5.out.ne_box Xs5.out (by decide))); have Xt9 := Lib.hid (box_app2 Xt5.out grow9 (fun e => by have h1 := (HD5.out.row_ge _ e).1; omega)); have Xr9 := Lib.hid (box_app2 Xr5.out grow9 (HD5.out.ne_box Xr5.out (by decide))); have HB9 := Lib.hid (HB5.out.grown grow9 (by omega) (fun k hk => by have h1 := (HD5.out.row_ge _ hk).1; omega)); have q13 := bxc Xs9.out 13 _ rfl; have p13 := bxf Xs9.out 13)))
      all_goals (have D10 := Lib.hid ((D9.out.off (w' := w9.setCell ⟨w.heap.size, 13, none⟩ (.slice A9 (q + 1) c9)) Xs9.out (by decide) (by decide) (fun k hk => Below.heap_setCell w9 ⟨w.heap.size, 13, none⟩ _ k hk) (by simp)).mono (show w.heap.size ≤ w3.heap.size by omega)); have Xs10 : Hid ((w9.setCell ⟨w.heap.size, 13, none⟩ (.slice A9 (q + 1) c9)).heap[w.heap.size]? = some (.cells #[.slice P g cg, .slice A n c, .slice Z m cm, .slice Y p cp, .int .i64 D.cost.a, .int .i64 D.cost.b, .int .i64 D.cost.c, .int .i64 D.cost.d, .int .i64 D.bud.a, .int .i64 D.bud.b, .int .i64 D.bud.c, .int .i64 D.bud.d, .int .i64 D.floor, .slice A9 (q + 1) c9] 44 (0, 0))) := Lib.hid (box_set Xs9.out 13 _); have Xt10 := Lib.hid (box_off (p := ⟨w.heap.size, 13, none⟩) Xt9.out (by simp) (.slice A9 (q + 1) c9)); have Xr10 := Lib.hid (box_off (p := ⟨w.heap.size, 13, none⟩) Xr9.out (by simp; omega) (.slice A9 (q + 1) c9)); have HB10 := Lib.hid (HB9.out.setCell (p := ⟨w.heap.size, 13, none⟩) (by simp) (.slice A9 (q + 1) c9)))
      all_goals (have hs10 : (w9.setCell ⟨w.heap.size, 13, none⟩ (.slice A9 (q + 1) c9)).heap.size = w9.heap.size := by simp)
      all_goals (have hw10 : w.heap.size + 1 + 1 + 1 ≤ w9.heap.size := by have h1 := grow9.size; have h2 := z3; omega)
      all_goals (have HRQ := Lib.hid (fun (r : Nat) (h : rowOf A9 = some r) => (show w.heap.size ≤ r by have h1 := (D9.out.row_ge r h).1; omega)))
      all_goals (clear q13 p13 Xs9 Xt9 Xr9 HB9 D9 own9 grow9 ho5 OV OU HD5 Xs5 Xt5 Xr5 HB5 HD4 Xs4 Xt4 Xr4 HB4 HR3 HT3 HQ3 Xs3 Xt3 Xr3 HB3 dt0 dt1 dt2 dt3 ct0 ct1 ct2 ct3 lt lt4 ls cs13 f13)
      all_goals (generalize w9.setCell ⟨w.heap.size, 13, none⟩ (.slice A9 (q + 1) c9) = w10 at *)
      all_goals (rw [← hs10] at hw10)
      all_goals (have HA := Lib.hid (asked_2 hK.out (by rw [hf.out]; exact HF.out)))
      all_goals (have ls := lt_of_block Xs10.out; have lt := lt_of_block Xt10.out; have lr := lt_of_block Xr10.out; have HR10 := Lib.hid ((HR0.out.below HB10.out).below (Below.refl _ _).drew); have HT10 := Lib.hid ((HT0.out.below HB10.out).below (Below.refl _ _).drew))
      all_goals (have cs0 := bxc Xs10.out 0 (.slice P g cg) rfl; have cs1 := bxc Xs10.out 1 (.slice A n c) rfl; have cs2 := bxc Xs10.out 2 (.slice Z m cm) rfl; have cs3 := bxc Xs10.out 3 (.slice Y p cp) rfl; have cs4 := bxc Xs10.out 4 (.int .i64 D.cost.a) rfl; have cs5 := bxc Xs10.out 5 (.int .i64 D.cost.b) rfl; have cs6 := bxc Xs10.out 6 (.int .i64 D.cost.c) rfl; have cs7 := bxc Xs10.out 7 (.int .i64 D.cost.d) rfl; have cs8 := bxc Xs10.out 8 (.int .i64 D.bud.a) rfl; have cs9 := bxc Xs10.out 9 (.int .i64 D.bud.b) rfl; have cs10 := bxc Xs10.out 10 (.int .i64 D.bud.c) rfl; have cs11 := bxc Xs10.out 11 (.int .i64 D.bud.d) rfl; have cs12 := bxc Xs10.out 12 (.int .i64 D.floor) rfl; have cs13 := bxc Xs10.out 13 (.slice A9 (q + 1) c9) rfl; have ct0 := bxc Xt10.out 0 _ rfl; have ct1 := bxc Xt10.out 1 _ rfl; have ct2 := bxc Xt10.out 2 _ rfl; have ct3 := bxc Xt10.out 3 _ rfl)
      all_goals (go_wp2_with fail)
      all_goals (have E10 : w10.drew.cell? ⟨w.heap.size, 0, none⟩ = some (.slice P g cg) ∧ w10.drew.cell? ⟨w.heap.size, 1, none⟩ = some (.slice A n c) ∧ w10.drew.cell? ⟨w.heap.size, 2, none⟩ = some (.slice Z m cm) ∧ w10.drew.cell? ⟨w.heap.size, 3, none⟩ = some (.slice Y p cp) ∧ w10.drew.cell? ⟨w.heap.size, 4, none⟩ = some (.int .i64 D.cost.a) ∧ w10.drew.cell? ⟨w.heap.size, 5, none⟩ = some (.int .i64 D.cost.b) ∧ w10.drew.cell? ⟨w.heap.size, 6, none⟩ = some (.int .i64 D.cost.c) ∧ w10.drew.cell? ⟨w.heap.size, 7, none⟩ = some (.int .i64 D.cost.d) ∧ w10.drew.cell? ⟨w.heap.size, 8, none⟩ = some (.int .i64 D.bud.a) ∧ w10.drew.cell? ⟨w.heap.size, 9, none⟩ = some (.int .i64 D.bud.b) ∧ w10.drew.cell? ⟨w.heap.size, 10, none⟩ = some (.int .i64 D.bud.c) ∧ w10.drew.cell? ⟨w.heap.size, 11, none⟩ = some (.int .i64 D.bud.d) ∧ w10.drew.cell? ⟨w.heap.size, 12, none⟩ = some (.int .i64 D.floor) ∧ w10.drew.cell? ⟨w.heap.size, 13, none⟩ = some (.slice A9 (q + 1) c9) ∧ w10.drew.cell? ⟨w.heap.size + 1, 0, none⟩ = some (.int .i64 t.lv) ∧ w10.drew.cell? ⟨w.heap.size + 1, 1, none⟩ = some (.slice V tm td) ∧ w10.drew.cell? ⟨w.heap.size + 1, 2, none⟩ = some (.slice U tk te) ∧ w10.drew.cell? ⟨w.heap.size + 1, 3, none⟩ = some (.int .i64 t.sum) := ⟨cs0, cs1, cs2, cs3, cs4, cs5, cs6, cs7, cs8, cs9, cs10, cs11, cs12, cs13, ct0, ct1, ct2, ct3⟩)
      all_goals (go_region_held3 (fun w' => w'.cell? ⟨w.heap.size, 0, none⟩ = some (.slice P g cg) ∧ w'.cell? ⟨w.heap.size, 1, none⟩ = some (.slice A n c) ∧ w'.cell? ⟨w.heap.size, 2, none⟩ = some (.slice Z m cm) ∧ w'.cell? ⟨w.heap.size, 3, none⟩ = some (.slice Y p cp) ∧ w'.cell? ⟨w.heap.size, 4, none⟩ = some (.int .i64 D.cost.a) ∧ w'.cell? ⟨w.heap.size, 5, none⟩ = some (.int .i64 D.cost.b) ∧ w'.cell? ⟨w.heap.size, 6, none⟩ = some (.int .i64 D.cost.c) ∧ w'.cell? ⟨w.heap.size, 7, none⟩ = some (.int .i64 D.cost.d) ∧ w'.cell? ⟨w.heap.size, 8, none⟩ = some (.int .i64 D.bud.a) ∧ w'.cell? ⟨w.heap.size, 9, none⟩ = some (.int .i64 D.bud.b) ∧ w'.cell? ⟨w.heap.size, 10, none⟩ = some (.int .i64 D.bud.c) ∧ w'.cell? ⟨w.heap.size, 11, none⟩ = some (.int .i64 D.bud.d) ∧ w'.cell? ⟨w.heap.size, 12, none⟩ = some (.int .i64 D.floor) ∧ w'.cell? ⟨w.heap.size, 13, none⟩ = some (.slice A9 (q + 1) c9) ∧ w'.cell? ⟨w.heap.size + 1, 0, none⟩ = some (.int .i64 t.lv) ∧ w'.cell? ⟨w.heap.size + 1, 1, none⟩ = some (.slice V tm td) ∧ w'.cell? ⟨w.heap.size + 1, 2, none⟩ = some (.slice U tk te) ∧ w'.cell? ⟨w.heap.size + 1, 3, none⟩ = some (.int .i64 t.sum)) (first | with_reducible exact ⟨ds0, ds1, ds2, ds3, ds4, ds5, ds6, ds7, ds8, ds9, ds10, ds11, ds12, ds13, dt0, dt1, dt2, dt3⟩ | with_reducible exact E10 | with_reducible exact ⟨bxc X12.out 0 _ rfl, bxc X12.out 1 _ rfl, bxc X12.out 2 _ rfl, bxc X12.out 3 _ rfl, bxc X12.out 4 _ rfl, bxc X12.out 5 _ rfl, bxc X12.out 6 _ rfl, bxc X12.out 7 _ rfl, bxc X12.out 8 _ rfl, bxc X12.out 9 _ rfl, bxc X12.out 10 _ rfl, bxc X12.out 11 _ rfl, bxc X12.out 12 _ rfl, bxc X12.out 13 _ rfl, bxc Y12.out 0 _ rfl, bxc Y12.out 1 _ rfl, bxc Y12.out 2 _ rfl, bxc Y12.out 3 _ rfl⟩ | go_keep) ((go_at_call 134; refine (uTable_any P A V U Z g cg n c tm td tk te m cm D.par t D.vs D.rs _ (HO.out.tab HR10.out (code0_tab hK.out)) HO.out.d (by exact HR10.out.p) (by exact HR10.out.s) (by exact HT10.out) (by exact HR10.out.d)).mono ?_; rintro e w11 ⟨B, cb, rfl, oB, b11⟩; have b11' : Below w10.heap.size w10 w11 := (Below.refl _ _).drew.trans b11; have oB' : Own w11 w10.heap.size B (cntV D.par D.vs t).toNat cb (D.tbl t) := oB; have Xs11 := Lib.hid (bxb Xs10.out b11'); have Xt11 := Lib.hid (bxb Xt10.out b11'); have Xr11 := Lib.hid (bxb Xr10.out b11'); have HB11 := Lib.hid (HB10.out.trans (b11'.mono HB10.out.size)); have D11 := Lib.hid (D10.out.below b11'); have OB := Lib.hid oB'; have ds0 := bxc Xs11.out 0 (.slice P g cg) rfl; have ds1 := bxc Xs11.out 1 (.slice A n c) rfl; have ds2 := bxc Xs11.out 2 (.slice Z m cm) rfl; have ds3 := bxc Xs11.out 3 (.slice Y p cp) rfl; have ds4 := bxc Xs11.out 4 (.int .i64 D.cost.a) rfl; have ds5 := bxc Xs11.out 5 (.int .i64 D.cost.b) rfl; have ds6 := bxc Xs11.out 6 (.int .i64 D.cost.c) rfl; have ds7 := bxc Xs11.out 7 (.int .i64 D.cost.d) rfl; have ds8 := bxc Xs11.out 8 (.int .i64 D.bud.a) rfl; have ds9 := bxc Xs11.out 9 (.int .i64 D.bud.b) rfl; have ds10 := bxc Xs11.out 10 (.int .i64 D.bud.c) rfl; have ds11 := bxc Xs11.out 11 (.int .i64 D.bud.d) rfl; have ds12 := bxc Xs11.out 12 (.int .i64 D.floor) rfl; have ds13 := bxc Xs11.out 13 (.slice A9 (q + 1) c9) rfl; have dt0 := bxc Xt11.out 0 _ rfl; have dt1 := bxc Xt11.out 1 _ rfl; have dt2 := bxc Xt11.out 2 _ rfl; have dt3 := bxc Xt11.out 3 _ rfl; have dr0 := bxc Xr11.out 0 _ rfl; have fr0 := bxf Xr11.out 0; have dr1 := bxc Xr11.out 1 _ rfl; have fr1 := bxf Xr11.out 1; have dr2 := bxc Xr11.out 2 _ rfl; have fr2 := bxf Xr11.out 2; have dr3 := bxc Xr11.out 3 _ rfl; have fr3 := bxf Xr11.out 3; have dr4 := bxc Xr11.out 4 _ rfl; have fr4 := bxf Xr11.out 4; have dr5 := bxc Xr11.out 5 _ rfl; have fr5 := bxf Xr11.out 5; have dr6 := bxc Xr11.out 6 _ rfl; have fr6 := bxf Xr11.out 6; have dr7 := bxc Xr11.out 7 _ rfl; have fr7 := bxf Xr11.out 7; have dr8 := bxc Xr11.out 8 _ rfl; have fr8 := bxf Xr11.out 8; have dr9 := bxc Xr11.out 9 _ rfl; have fr9 := bxf Xr11.out 9; have dr10 := bxc Xr11.out 10 _ rfl; have fr10 := bxf Xr11.out 10; have dr11 := bxc Xr11.out 11 _ rfl; have fr11 := bxf Xr11.out 11; have dr12 := bxc Xr11.out 12 _ rfl; have fr12 := bxf Xr11.out 12; have dr13 := bxc Xr11.out 13 _ rfl; have fr13 := bxf Xr11.out 13; have lr11 := lt_of_block Xr11.out; have X12 := Lib.hid (far14 (b := w.heap.size + 1 + 1) (y0 := .slice P g cg) (y1 := .slice A n c) (y2 := .slice Z m cm) (y3 := .slice Y p cp) (y4 := .int .i64 D.cost.a) (y5 := .int .i64 D.cost.b) (y6 := .int .i64 D.cost.c) (y7 := .int .i64 D.cost.d) (y8 := .int .i64 D.bud.a) (y9 := .int .i64 D.bud.b) (y10 := .int .i64 D.bud.c) (y11 := .int .i64 D.bud.d) (y12 := .int .i64 D.floor) (y13 := .slice A9 (q + 1) c9) Xs11.out (by omega)); have Y12 := Lib.hid (far14 (b := w.heap.size + 1 + 1) (y0 := .slice P g cg) (y1 := .slice A n c) (y2 := .slice Z m cm) (y3 := .slice Y p cp) (y4 := .int .i64 D.cost.a) (y5 := .int .i64 D.cost.b) (y6 := .int .i64 D.cost.c) (y7 := .int .i64 D.cost.d) (y8 := .int .i64 D.bud.a) (y9 := .int .i64 D.bud.b) (y10 := .int .i64 D.bud.c) (y11 := .int .i64 D.bud.d) (y12 := .int .i64 D.floor) (y13 := .slice A9 (q + 1) c9) Xt11.out (by omega)); clear oB oB' b11 b11')))
      all_goals (have RX := Lib.hid (fill14n (y0 := .slice P g cg) (y1 := .slice A n c) (y2 := .slice Z m cm) (y3 := .slice Y p cp) (y4 := .int .i64 D.cost.a) (y5 := .int .i64 D.cost.b) (y6 := .int .i64 D.cost.c) (y7 := .int .i64 D.cost.d) (y8 := .int .i64 D.bud.a) (y9 := .int .i64 D.bud.b) (y10 := .int .i64 D.bud.c) (y11 := .int .i64 D.bud.d) (y12 := .int .i64 D.floor) (y13 := .slice A9 (q + 1) c9) Xr11.out))
      all_goals (have rr0 := bxc RX.out 0 (.slice P g cg) rfl; have rr1 := bxc RX.out 1 (.slice A n c) rfl; have rr2 := bxc RX.out 2 (.slice Z m cm) rfl; have rr3 := bxc RX.out 3 (.slice Y p cp) rfl; have rr4 := bxc RX.out 4 (.int .i64 D.cost.a) rfl; have rr5 := bxc RX.out 5 (.int .i64 D.cost.b) rfl; have rr6 := bxc RX.out 6 (.int .i64 D.cost.c) rfl; have rr7 := bxc RX.out 7 (.int .i64 D.cost.d) rfl; have rr8 := bxc RX.out 8 (.int .i64 D.bud.a) rfl; have rr9 := bxc RX.out 9 (.int .i64 D.bud.b) rfl; have rr10 := bxc RX.out 10 (.int .i64 D.bud.c) rfl; have rr11 := bxc RX.out 11 (.int .i64 D.bud.d) rfl; have rr12 := bxc RX.out 12 (.int .i64 D.floor) rfl; have rr13 := bxc RX.out 13 (.slice A9 (q + 1) c9) rfl)
      all_goals (have hz := puts_size (g := w.heap.size + 1 + 1) [(0, .slice P g cg), (1, .slice A n c), (2, .slice Z m cm), (3, .slice Y p cp), (4, .int .i64 D.cost.a), (5, .int .i64 D.cost.b), (6, .int .i64 D.cost.c), (7, .int .i64 D.cost.d), (8, .int .i64 D.bud.a), (9, .int .i64 D.bud.b), (10, .int .i64 D.bud.c), (11, .int .i64 D.bud.d), (12, .int .i64 D.floor), (13, .slice A9 (q + 1) c9)] w11; have hn := (fun k (hk : k ≠ w.heap.size + 1 + 1) => puts_ne (g := w.heap.size + 1 + 1) [(0, .slice P g cg), (1, .slice A n c), (2, .slice Z m cm), (3, .slice Y p cp), (4, .int .i64 D.cost.a), (5, .int .i64 D.cost.b), (6, .int .i64 D.cost.c), (7, .int .i64 D.cost.d), (8, .int .i64 D.bud.a), (9, .int .i64 D.bud.b), (10, .int .i64 D.bud.c), (11, .int .i64 D.bud.d), (12, .int .i64 D.floor), (13, .slice A9 (q + 1) c9)] w11 hk); have hb := puts_below (g := w.heap.size + 1 + 1) [(0, .slice P g cg), (1, .slice A n c), (2, .slice Z m cm), (3, .slice Y p cp), (4, .int .i64 D.cost.a), (5, .int .i64 D.cost.b), (6, .int .i64 D.cost.c), (7, .int .i64 D.cost.d), (8, .int .i64 D.bud.a), (9, .int .i64 D.bud.b), (10, .int .i64 D.bud.c), (11, .int .i64 D.bud.d), (12, .int .i64 D.floor), (13, .slice A9 (q + 1) c9)] w11 HB11.out (by omega))
      all_goals (have hB := OB.out.keep (w' := puts w11 (w.heap.size + 1 + 1) [(0, .slice P g cg), (1, .slice A n c), (2, .slice Z m cm), (3, .slice Y p cp), (4, .int .i64 D.cost.a), (5, .int .i64 D.cost.b), (6, .int .i64 D.cost.c), (7, .int .i64 D.cost.d), (8, .int .i64 D.bud.a), (9, .int .i64 D.bud.b), (10, .int .i64 D.bud.c), (11, .int .i64 D.bud.d), (12, .int .i64 D.floor), (13, .slice A9 (q + 1) c9)]) (fun k hA _ => hn k (by rintro rfl; exact own_ne OB.out Xr11.out (by decide) (by rw [hA]; rfl))))
      all_goals (have FIN := Lib.hid (show JAsk P A Z Y Q q cq g cg n c m cm p cp D t lo w (.returned (.tuple #[.agg #[.slice P g cg, .slice A n c, .slice Z m cm, .slice Y p cp, .int .i64 D.cost.a, .int .i64 D.cost.b, .int .i64 D.cost.c, .int .i64 D.cost.d, .int .i64 D.bud.a, .int .i64 D.bud.b, .int .i64 D.bud.c, .int .i64 D.bud.d, .int .i64 D.floor, .slice A9 (q + 1) c9], .slice B (cntV D.par D.vs t).toNat cb, .int .i64 0])) (puts w11 (w.heap.size + 1 + 1) [(0, .slice P g cg), (1, .slice A n c), (2, .slice Z m cm), (3, .slice Y p cp), (4, .int .i64 D.cost.a), (5, .int .i64 D.cost.b), (6, .int .i64 D.cost.c), (7, .int .i64 D.cost.d), (8, .int .i64 D.bud.a), (9, .int .i64 D.bud.b), (10, .int .i64 D.bud.c), (11, .int .i64 D.bud.d), (12, .int .i64 D.floor), (13, .slice A9 (q + 1) c9)]) from ⟨_, _, _, B, _, cb, by rw [hK.out], by rw [HA.out]; exact (D11.out.off Xr11.out (by decide) (by decide) hn hz).mono hlo, by rw [cells_2 hK.out]; exact (OwnI.of_own hB (Nat.le_trans (cntV_bd (tabB_ok HO.out.g HO.out.s (code0_tab hK.out))) (by decide))).fit (by omega), hb, fun r hr => .inr (HRQ.out r hr), .inr (by rw [HA.out]; exact D11.out.off Xr11.out (by decide) (by decide) hn hz)⟩))
      all_goals (clear hz hn hb hB RX E10 HR10 HT10 X12 Y12 Xs11 Xt11 Xr11 OB D11 HB11 ls lt lr lr11 cs0 cs1 cs2 cs3 cs4 cs5 cs6 cs7 cs8 cs9 cs10 cs11 cs12 cs13 ct0 ct1 ct2 ct3 ds0 ds1 ds2 ds3 ds4 ds5 ds6 ds7 ds8 ds9 ds10 ds11 ds12 ds13 dt0 dt1 dt2 dt3 dr0 dr1 dr2 dr3 dr4 dr5 dr6 dr7 dr8 dr9 dr10 dr11 dr12 dr13 fr0 fr1 fr2 fr3 fr4 fr5 fr6 fr7 fr8 fr9 fr10 fr11 fr12 fr13)
      all_goals (go_wp2)
      all_goals (exact bodyPost_ret (v := .tuple #[.agg #[.slice P g cg, .slice A n c, .slice Z m cm, .slice Y p cp, .int .i64 D.cost.a, .int .i64 D.cost.b, .int .i64 D.cost.c, .int .i64 D.cost.d, .int .i64 D.bud.a, .int .i64 D.bud.b, .int .i64 D.bud.c, .int .i64 D.bud.d, .int .i64 D.floor, .slice A9 (q + 1) c9], .slice B (cntV D.par D.vs t).toNat cb, .int .i64 0]) (by simp [results, Tryz.results93, go_sem, rr0, rr1, rr2, rr3, rr4, rr5, rr6, rr7, rr8, rr9, rr10, rr11, rr12, rr13]) rfl FIN.out)
    · have hd : decide (f < 0) = false := by simpa using hf0
      have HF := Lib.hid hf0
      clear hf0
      have HA := Lib.hid (asked_3 hK.out (by rw [hf.out]; exact HF.out))
      have Xs10 := Xs3
      have Xt10 := Xt3
      have Xr10 := Xr3
      have HB10 := HB3
      have D10 := HQ3
      have hw10 : w.heap.size + 1 + 1 + 1 ≤ w3.heap.size := by omega
      clear Xs3 Xt3 Xr3 HB3 HQ3 HR3 HT3
      have ls := lt_of_block Xs10.out; have lt := lt_of_block Xt10.out; have lr := lt_of_block Xr10.out; have HR10 := Lib.hid ((HR0.out.below HB10.out).below (Below.refl _ _).drew); have HT10 := Lib.hid ((HT0.out.below HB10.out).below (Below.refl _ _).drew)
      have cs0 := bxc Xs10.out 0 (.slice P g cg) rfl; have cs1 := bxc Xs10.out 1 (.slice A n c) rfl; have cs2 := bxc Xs10.out 2 (.slice Z m cm) rfl; have cs3 := bxc Xs10.out 3 (.slice Y p cp) rfl; have cs4 := bxc Xs10.out 4 (.int .i64 D.cost.a) rfl; have cs5 := bxc Xs10.out 5 (.int .i64 D.cost.b) rfl; have cs6 := bxc Xs10.out 6 (.int .i64 D.cost.c) rfl; have cs7 := bxc Xs10.out 7 (.int .i64 D.cost.d) rfl; have cs8 := bxc Xs10.out 8 (.int .i64 D.bud.a) rfl; have cs9 := bxc Xs10.out 9 (.int .i64 D.bud.b) rfl; have cs10 := bxc Xs10.out 10 (.int .i64 D.bud.c) rfl; have cs11 := bxc Xs10.out 11 (.int .i64 D.bud.d) rfl; have cs12 := bxc Xs10.out 12 (.int .i64 D.floor) rfl; have cs13 := bxc Xs10.out 13 (.slice Q q cq) rfl; have ct0 := bxc Xt10.out 0 _ rfl; have ct1 := bxc Xt10.out 1 _ rfl; have ct2 := bxc Xt10.out 2 _ rfl; have ct3 := bxc Xt10.out 3 _ rfl
      go_wp2_with fail
      have E10 : w3.drew.cell? ⟨w.heap.size, 0, none⟩ = some (.slice P g cg) ∧ w3.drew.cell? ⟨w.heap.size, 1, none⟩ = some (.slice A n c) ∧ w3.drew.cell? ⟨w.heap.size, 2, none⟩ = some (.slice Z m cm) ∧ w3.drew.cell? ⟨w.heap.size, 3, none⟩ = some (.slice Y p cp) ∧ w3.drew.cell? ⟨w.heap.size, 4, none⟩ = some (.int .i64 D.cost.a) ∧ w3.drew.cell? ⟨w.heap.size, 5, none⟩ = some (.int .i64 D.cost.b) ∧ w3.drew.cell? ⟨w.heap.size, 6, none⟩ = some (.int .i64 D.cost.c) ∧ w3.drew.cell? ⟨w.heap.size, 7, none⟩ = some (.int .i64 D.cost.d) ∧ w3.drew.cell? ⟨w.heap.size, 8, none⟩ = some (.int .i64 D.bud.a) ∧ w3.drew.cell? ⟨w.heap.size, 9, none⟩ = some (.int .i64 D.bud.b) ∧ w3.drew.cell? ⟨w.heap.size, 10, none⟩ = some (.int .i64 D.bud.c) ∧ w3.drew.cell? ⟨w.heap.size, 11, none⟩ = some (.int .i64 D.bud.d) ∧ w3.drew.cell? ⟨w.heap.size, 12, none⟩ = some (.int .i64 D.floor) ∧ w3.drew.cell? ⟨w.heap.size, 13, none⟩ = some (.slice Q q cq) ∧ w3.drew.cell? ⟨w.heap.size + 1, 0, none⟩ = some (.int .i64 t.lv) ∧ w3.drew.cell? ⟨w.heap.size + 1, 1, none⟩ = some (.slice V tm td) ∧ w3.drew.cell? ⟨w.heap.size + 1, 2, none⟩ = some (.slice U tk te) ∧ w3.drew.cell? ⟨w.heap.size + 1, 3, none⟩ = some (.int .i64 t.sum) := ⟨cs0, cs1, cs2, cs3, cs4, cs5, cs6, cs7, cs8, cs9, cs10, cs11, cs12, cs13, ct0, ct1, ct2, ct3⟩
      go_region_held3 (fun w' => w'.cell? ⟨w.heap.size, 0, none⟩ = some (.slice P g cg) ∧ w'.cell? ⟨w.heap.size, 1, none⟩ = some (.slice A n c) ∧ w'.cell? ⟨w.heap.size, 2, none⟩ = some (.slice Z m cm) ∧ w'.cell? ⟨w.heap.size, 3, none⟩ = some (.slice Y p cp) ∧ w'.cell? ⟨w.heap.size, 4, none⟩ = some (.int .i64 D.cost.a) ∧ w'.cell? ⟨w.heap.size, 5, none⟩ = some (.int .i64 D.cost.b) ∧ w'.cell? ⟨w.heap.size, 6, none⟩ = some (.int .i64 D.cost.c) ∧ w'.cell? ⟨w.heap.size, 7, none⟩ = some (.int .i64 D.cost.d) ∧ w'.cell? ⟨w.heap.size, 8, none⟩ = some (.int .i64 D.bud.a) ∧ w'.cell? ⟨w.heap.size, 9, none⟩ = some (.int .i64 D.bud.b) ∧ w'.cell? ⟨w.heap.size, 10, none⟩ = some (.int .i64 D.bud.c) ∧ w'.cell? ⟨w.heap.size, 11, none⟩ = some (.int .i64 D.bud.d) ∧ w'.cell? ⟨w.heap.size, 12, none⟩ = some (.int .i64 D.floor) ∧ w'.cell? ⟨w.heap.size, 13, none⟩ = some (.slice Q q cq) ∧ w'.cell? ⟨w.heap.size + 1, 0, none⟩ = some (.int .i64 t.lv) ∧ w'.cell? ⟨w.heap.size + 1, 1, none⟩ = some (.slice V tm td) ∧ w'.cell? ⟨w.heap.size + 1, 2, none⟩ = some (.slice U tk te) ∧ w'.cell? ⟨w.heap.size + 1, 3, none⟩ = some (.int .i64 t.sum)) (first | with_reducible exact ⟨ds0, ds1, ds2, ds3, ds4, ds5, ds6, ds7, ds8, ds9, ds10, ds11, ds12, ds13, dt0, dt1, dt2, dt3⟩ | with_reducible exact E10 | with_reducible exact ⟨bxc X12.out 0 _ rfl, bxc X12.out 1 _ rfl, bxc X12.out 2 _ rfl, bxc X12.out 3 _ rfl, bxc X12.out 4 _ rfl, bxc X12.out 5 _ rfl, bxc X12.out 6 _ rfl, bxc X12.out 7 _ rfl, bxc X12.out 8 _ rfl, bxc X12.out 9 _ rfl, bxc X12.out 10 _ rfl, bxc X12.out 11 _ rfl, bxc X12.out 12 _ rfl, bxc X12.out 13 _ rfl, bxc Y12.out 0 _ rfl, bxc Y12.out 1 _ rfl, bxc Y12.out 2 _ rfl, bxc Y12.out 3 _ rfl⟩ | go_keep) ((go_at_call 134; refine (uTable_any P A V U Z g cg n c tm td tk te m cm D.par t D.vs D.rs _ (HO.out.tab HR10.out (code0_tab hK.out)) HO.out.d (by exact HR10.out.p) (by exact HR10.out.s) (by exact HT10.out) (by exact HR10.out.d)).mono ?_; rintro e w11 ⟨B, cb, rfl, oB, b11⟩; have b11' : Below w3.heap.size w3 w11 := (Below.refl _ _).drew.trans b11; have oB' : Own w11 w3.heap.size B (cntV D.par D.vs t).toNat cb (D.tbl t) := oB; have Xs11 := Lib.hid (bxb Xs10.out b11'); have Xt11 := Lib.hid (bxb Xt10.out b11'); have Xr11 := Lib.hid (bxb Xr10.out b11'); have HB11 := Lib.hid (HB10.out.trans (b11'.mono HB10.out.size)); have D11 := Lib.hid (D10.out.below b11'); have OB := Lib.hid oB'; have ds0 := bxc Xs11.out 0 (.slice P g cg) rfl; have ds1 := bxc Xs11.out 1 (.slice A n c) rfl; have ds2 := bxc Xs11.out 2 (.slice Z m cm) rfl; have ds3 := bxc Xs11.out 3 (.slice Y p cp) rfl; have ds4 := bxc Xs11.out 4 (.int .i64 D.cost.a) rfl; have ds5 := bxc Xs11.out 5 (.int .i64 D.cost.b) rfl; have ds6 := bxc Xs11.out 6 (.int .i64 D.cost.c) rfl; have ds7 := bxc Xs11.out 7 (.int .i64 D.cost.d) rfl; have ds8 := bxc Xs11.out 8 (.int .i64 D.bud.a) rfl; have ds9 := bxc Xs11.out 9 (.int .i64 D.bud.b) rfl; have ds10 := bxc Xs11.out 10 (.int .i64 D.bud.c) rfl; have ds11 := bxc Xs11.out 11 (.int .i64 D.bud.d) rfl; have ds12 := bxc Xs11.out 12 (.int .i64 D.floor) rfl; have ds13 := bxc Xs11.out 13 (.slice Q q cq) rfl; have dt0 := bxc Xt11.out 0 _ rfl; have dt1 := bxc Xt11.out 1 _ rfl; have dt2 := bxc Xt11.out 2 _ rfl; have dt3 := bxc Xt11.out 3 _ rfl; have dr0 := bxc Xr11.out 0 _ rfl; have fr0 := bxf Xr11.out 0; have dr1 := bxc Xr11.out 1 _ rfl; have fr1 := bxf Xr11.out 1; have dr2 := bxc Xr11.out 2 _ rfl; have fr2 := bxf Xr11.out 2; have dr3 := bxc Xr11.out 3 _ rfl; have fr3 := bxf Xr11.out 3; have dr4 := bxc Xr11.out 4 _ rfl; have fr4 := bxf Xr11.out 4; have dr5 := bxc Xr11.out 5 _ rfl; have fr5 := bxf Xr11.out 5; have dr6 := bxc Xr11.out 6 _ rfl; have fr6 := bxf Xr11.out 6; have dr7 := bxc Xr11.out 7 _ rfl; have fr7 := bxf Xr11.out 7; have dr8 := bxc Xr11.out 8 _ rfl; have fr8 := bxf Xr11.out 8; have dr9 := bxc Xr11.out 9 _ rfl; have fr9 := bxf Xr11.out 9; have dr10 := bxc Xr11.out 10 _ rfl; have fr10 := bxf Xr11.out 10; have dr11 := bxc Xr11.out 11 _ rfl; have fr11 := bxf Xr11.out 11; have dr12 := bxc Xr11.out 12 _ rfl; have fr12 := bxf Xr11.out 12; have dr13 := bxc Xr11.out 13 _ rfl; have fr13 := bxf Xr11.out 13; have lr11 := lt_of_block Xr11.out; have X12 := Lib.hid (far14 (b := w.heap.size + 1 + 1) (y0 := .slice P g cg) (y1 := .slice A n c) (y2 := .slice Z m cm) (y3 := .slice Y p cp) (y4 := .int .i64 D.cost.a) (y5 := .int .i64 D.cost.b) (y6 := .int .i64 D.cost.c) (y7 := .int .i64 D.cost.d) (y8 := .int .i64 D.bud.a) (y9 := .int .i64 D.bud.b) (y10 := .int .i64 D.bud.c) (y11 := .int .i64 D.bud.d) (y12 := .int .i64 D.floor) (y13 := .slice Q q cq) Xs11.out (by omega)); have Y12 := Lib.hid (far14 (b := w.heap.size + 1 + 1) (y0 := .slice P g cg) (y1 := .slice A n c) (y2 := .slice Z m cm) (y3 := .slice Y p cp) (y4 := .int .i64 D.cost.a) (y5 := .int .i64 D.cost.b) (y6 := .int .i64 D.cost.c) (y7 := .int .i64 D.cost.d) (y8 := .int .i64 D.bud.a) (y9 := .int .i64 D.bud.b) (y10 := .int .i64 D.bud.c) (y11 := .int .i64 D.bud.d) (y12 := .int .i64 D.floor) (y13 := .slice Q q cq) Xt11.out (by omega)); clear oB oB' b11 b11'))
      have RX := Lib.hid (fill14n (y0 := .slice P g cg) (y1 := .slice A n c) (y2 := .slice Z m cm) (y3 := .slice Y p cp) (y4 := .int .i64 D.cost.a) (y5 := .int .i64 D.cost.b) (y6 := .int .i64 D.cost.c) (y7 := .int .i64 D.cost.d) (y8 := .int .i64 D.bud.a) (y9 := .int .i64 D.bud.b) (y10 := .int .i64 D.bud.c) (y11 := .int .i64 D.bud.d) (y12 := .int .i64 D.floor) (y13 := .slice Q q cq) Xr11.out)
      have rr0 := bxc RX.out 0 (.slice P g cg) rfl; have rr1 := bxc RX.out 1 (.slice A n c) rfl; have rr2 := bxc RX.out 2 (.slice Z m cm) rfl; have rr3 := bxc RX.out 3 (.slice Y p cp) rfl; have rr4 := bxc RX.out 4 (.int .i64 D.cost.a) rfl; have rr5 := bxc RX.out 5 (.int .i64 D.cost.b) rfl; have rr6 := bxc RX.out 6 (.int .i64 D.cost.c) rfl; have rr7 := bxc RX.out 7 (.int .i64 D.cost.d) rfl; have rr8 := bxc RX.out 8 (.int .i64 D.bud.a) rfl; have rr9 := bxc RX.out 9 (.int .i64 D.bud.b) rfl; have rr10 := bxc RX.out 10 (.int .i64 D.bud.c) rfl; have rr11 := bxc RX.out 11 (.int .i64 D.bud.d) rfl; have rr12 := bxc RX.out 12 (.int .i64 D.floor) rfl; have rr13 := bxc RX.out 13 (.slice Q q cq) rfl
      have hz := puts_size (g := w.heap.size + 1 + 1) [(0, .slice P g cg), (1, .slice A n c), (2, .slice Z m cm), (3, .slice Y p cp), (4, .int .i64 D.cost.a), (5, .int .i64 D.cost.b), (6, .int .i64 D.cost.c), (7, .int .i64 D.cost.d), (8, .int .i64 D.bud.a), (9, .int .i64 D.bud.b), (10, .int .i64 D.bud.c), (11, .int .i64 D.bud.d), (12, .int .i64 D.floor), (13, .slice Q q cq)] w11; have hn := (fun k (hk : k ≠ w.heap.size + 1 + 1) => puts_ne (g := w.heap.size + 1 + 1) [(0, .slice P g cg), (1, .slice A n c), (2, .slice Z m cm), (3, .slice Y p cp), (4, .int .i64 D.cost.a), (5, .int .i64 D.cost.b), (6, .int .i64 D.cost.c), (7, .int .i64 D.cost.d), (8, .int .i64 D.bud.a), (9, .int .i64 D.bud.b), (10, .int .i64 D.bud.c), (11, .int .i64 D.bud.d), (12, .int .i64 D.floor), (13, .slice Q q cq)] w11 hk); have hb := puts_below (g := w.heap.size + 1 + 1) [(0, .slice P g cg), (1, .slice A n c), (2, .slice Z m cm), (3, .slice Y p cp), (4, .int .i64 D.cost.a), (5, .int .i64 D.cost.b), (6, .int .i64 D.cost.c), (7, .int .i64 D.cost.d), (8, .int .i64 D.bud.a), (9, .int .i64 D.bud.b), (10, .int .i64 D.bud.c), (11, .int .i64 D.bud.d), (12, .int .i64 D.floor), (13, .slice Q q cq)] w11 HB11.out (by omega)
      have hB := OB.out.keep (w' := puts w11 (w.heap.size + 1 + 1) [(0, .slice P g cg), (1, .slice A n c), (2, .slice Z m cm), (3, .slice Y p cp), (4, .int .i64 D.cost.a), (5, .int .i64 D.cost.b), (6, .int .i64 D.cost.c), (7, .int .i64 D.cost.d), (8, .int .i64 D.bud.a), (9, .int .i64 D.bud.b), (10, .int .i64 D.bud.c), (11, .int .i64 D.bud.d), (12, .int .i64 D.floor), (13, .slice Q q cq)]) (fun k hA _ => hn k (by rintro rfl; exact own_ne OB.out Xr11.out (by decide) (by rw [hA]; rfl)))
      have FIN := Lib.hid (show JAsk P A Z Y Q q cq g cg n c m cm p cp D t lo w (.returned (.tuple #[.agg #[.slice P g cg, .slice A n c, .slice Z m cm, .slice Y p cp, .int .i64 D.cost.a, .int .i64 D.cost.b, .int .i64 D.cost.c, .int .i64 D.cost.d, .int .i64 D.bud.a, .int .i64 D.bud.b, .int .i64 D.bud.c, .int .i64 D.bud.d, .int .i64 D.floor, .slice Q q cq], .slice B (cntV D.par D.vs t).toNat cb, .int .i64 0])) (puts w11 (w.heap.size + 1 + 1) [(0, .slice P g cg), (1, .slice A n c), (2, .slice Z m cm), (3, .slice Y p cp), (4, .int .i64 D.cost.a), (5, .int .i64 D.cost.b), (6, .int .i64 D.cost.c), (7, .int .i64 D.cost.d), (8, .int .i64 D.bud.a), (9, .int .i64 D.bud.b), (10, .int .i64 D.bud.c), (11, .int .i64 D.bud.d), (12, .int .i64 D.floor), (13, .slice Q q cq)]) from ⟨_, _, _, B, _, cb, by rw [hK.out], by rw [HA.out]; exact (D11.out.off Xr11.out (by decide) (by decide) hn hz), by rw [cells_2 hK.out]; exact (OwnI.of_own hB (Nat.le_trans (cntV_bd (tabB_ok HO.out.g HO.out.s (code0_tab hK.out))) (by decide))).fit (by omega), hb, fun r hr => .inl hr, .inl ⟨rfl, rfl, rfl, HA.out⟩⟩)
      clear hz hn hb hB RX E10 HR10 HT10 X12 Y12 Xs11 Xt11 Xr11 OB D11 HB11 ls lt lr lr11 cs0 cs1 cs2 cs3 cs4 cs5 cs6 cs7 cs8 cs9 cs10 cs11 cs12 cs13 ct0 ct1 ct2 ct3 ds0 ds1 ds2 ds3 ds4 ds5 ds6 ds7 ds8 ds9 ds10 ds11 ds12 ds13 dt0 dt1 dt2 dt3 dr0 dr1 dr2 dr3 dr4 dr5 dr6 dr7 dr8 dr9 dr10 dr11 dr12 dr13 fr0 fr1 fr2 fr3 fr4 fr5 fr6 fr7 fr8 fr9 fr10 fr11 fr12 fr13
      go_wp2
      exact bodyPost_ret (v := .tuple #[.agg #[.slice P g cg, .slice A n c, .slice Z m cm, .slice Y p cp, .int .i64 D.cost.a, .int .i64 D.cost.b, .int .i64 D.cost.c, .int .i64 D.cost.d, .int .i64 D.bud.a, .int .i64 D.bud.b, .int .i64 D.bud.c, .int .i64 D.bud.d, .int .i64 D.floor, .slice Q q cq], .slice B (cntV D.par D.vs t).toNat cb, .int .i64 0]) (by simp [results, Tryz.results93, go_sem, rr0, rr1, rr2, rr3, rr4, rr5, rr6, rr7, rr8, rr9, rr10, rr11, rr12, rr13]) rfl FIN.out
  · have e1 : (K != 0) = true := by simpa using hk
    have HK := Lib.hid hk
    clear hk
    have ls := lt_of_block Xs2.out
    have lr := lt_of_block Xr2.out
    have cs0 := bxc Xs2.out 0 _ rfl
    have cs1 := bxc Xs2.out 1 _ rfl
    have cs2 := bxc Xs2.out 2 _ rfl
    have cs3 := bxc Xs2.out 3 _ rfl
    have cs4 := bxc Xs2.out 4 _ rfl
    have cs5 := bxc Xs2.out 5 _ rfl
    have cs6 := bxc Xs2.out 6 _ rfl
    have cs7 := bxc Xs2.out 7 _ rfl
    have cs8 := bxc Xs2.out 8 _ rfl
    have cs9 := bxc Xs2.out 9 _ rfl
    have cs10 := bxc Xs2.out 10 _ rfl
    have cs11 := bxc Xs2.out 11 _ rfl
    have cs12 := bxc Xs2.out 12 _ rfl
    have cs13 := bxc Xs2.out 13 _ rfl
    have cr0 := bxc Xr2.out 0 _ rfl
    have fr0 := bxf Xr2.out 0
    have cr1 := bxc Xr2.out 1 _ rfl
    have fr1 := bxf Xr2.out 1
    have cr2 := bxc Xr2.out 2 _ rfl
    have fr2 := bxf Xr2.out 2
    have cr3 := bxc Xr2.out 3 _ rfl
    have fr3 := bxf Xr2.out 3
    have cr4 := bxc Xr2.out 4 _ rfl
    have fr4 := bxf Xr2.out 4
    have cr5 := bxc Xr2.out 5 _ rfl
    have fr5 := bxf Xr2.out 5
    have cr6 := bxc Xr2.out 6 _ rfl
    have fr6 := bxf Xr2.out 6
    have cr7 := bxc Xr2.out 7 _ rfl
    have fr7 := bxf Xr2.out 7
    have cr8 := bxc Xr2.out 8 _ rfl
    have fr8 := bxf Xr2.out 8
    have cr9 := bxc Xr2.out 9 _ rfl
    have fr9 := bxf Xr2.out 9
    have cr10 := bxc Xr2.out 10 _ rfl
    have fr10 := bxf Xr2.out 10
    have cr11 := bxc Xr2.out 11 _ rfl
    have fr11 := bxf Xr2.out 11
    have cr12 := bxc Xr2.out 12 _ rfl
    have fr12 := bxf Xr2.out 12
    have cr13 := bxc Xr2.out 13 _ rfl
    have fr13 := bxf Xr2.out 13
    have tt : (puts w2 (w.heap.size + 1 + 1) [(0, .slice P g cg), (1, .slice A n c), (2, .slice Z m cm), (3, .slice Y p cp), (4, .int .i64 D.cost.a), (5, .int .i64 D.cost.b), (6, .int .i64 D.cost.c), (7, .int .i64 D.cost.d), (8, .int .i64 D.bud.a), (9, .int .i64 D.bud.b), (10, .int .i64 D.bud.c), (11, .int .i64 D.bud.d), (12, .int .i64 D.floor), (13, .slice Q q cq)]).heap[w.heap.size + 1 + 1]? = _ := fill14 Xr2.out
    have rr : ∀ (i : Nat) (v : Value), #[.slice P g cg, .slice A n c, .slice Z m cm, .slice Y p cp, .int .i64 D.cost.a, .int .i64 D.cost.b, .int .i64 D.cost.c, .int .i64 D.cost.d, .int .i64 D.bud.a, .int .i64 D.bud.b, .int .i64 D.bud.c, .int .i64 D.bud.d, .int .i64 D.floor, .slice Q q cq][i]? = some v → (((((((((((((((w2).setCell ⟨w.heap.size + 1 + 1, 0, none⟩ (.slice P g cg)).setCell ⟨w.heap.size + 1 + 1, 1, none⟩ (.slice A n c)).setCell ⟨w.heap.size + 1 + 1, 2, none⟩ (.slice Z m cm)).setCell ⟨w.heap.size + 1 + 1, 3, none⟩ (.slice Y p cp)).setCell ⟨w.heap.size + 1 + 1, 4, none⟩ (.int .i64 D.cost.a)).setCell ⟨w.heap.size + 1 + 1, 5, none⟩ (.int .i64 D.cost.b)).setCell ⟨w.heap.size + 1 + 1, 6, none⟩ (.int .i64 D.cost.c)).setCell ⟨w.heap.size + 1 + 1, 7, none⟩ (.int .i64 D.cost.d)).setCell ⟨w.heap.size + 1 + 1, 8, none⟩ (.int .i64 D.bud.a)).setCell ⟨w.heap.size + 1 + 1, 9, none⟩ (.int .i64 D.bud.b)).setCell ⟨w.heap.size + 1 + 1, 10, none⟩ (.int .i64 D.bud.c)).setCell ⟨w.heap.size + 1 + 1, 11, none⟩ (.int .i64 D.bud.d)).setCell ⟨w.heap.size + 1 + 1, 12, none⟩ (.int .i64 D.floor)).setCell ⟨w.heap.size + 1 + 1, 13, none⟩ (.slice Q q cq)).cell? ⟨w.heap.size + 1 + 1, i, none⟩ = some v := fun i v h => bxc tt i v h
    have rr0 := rr 0 (.slice P g cg) rfl
    have rr1 := rr 1 (.slice A n c) rfl
    have rr2 := rr 2 (.slice Z m cm) rfl
    have rr3 := rr 3 (.slice Y p cp) rfl
    have rr4 := rr 4 (.int .i64 D.cost.a) rfl
    have rr5 := rr 5 (.int .i64 D.cost.b) rfl
    have rr6 := rr 6 (.int .i64 D.cost.c) rfl
    have rr7 := rr 7 (.int .i64 D.cost.d) rfl
    have rr8 := rr 8 (.int .i64 D.bud.a) rfl
    have rr9 := rr 9 (.int .i64 D.bud.b) rfl
    have rr10 := rr 10 (.int .i64 D.bud.c) rfl
    have rr11 := rr 11 (.int .i64 D.bud.d) rfl
    have rr12 := rr 12 (.int .i64 D.floor) rfl
    have rr13 := rr 13 (.slice Q q cq) rfl
    have hz := puts_size (g := w.heap.size + 1 + 1) [(0, .slice P g cg), (1, .slice A n c), (2, .slice Z m cm), (3, .slice Y p cp), (4, .int .i64 D.cost.a), (5, .int .i64 D.cost.b), (6, .int .i64 D.cost.c), (7, .int .i64 D.cost.d), (8, .int .i64 D.bud.a), (9, .int .i64 D.bud.b), (10, .int .i64 D.bud.c), (11, .int .i64 D.bud.d), (12, .int .i64 D.floor), (13, .slice Q q cq)] w2
    have hn := fun k (hk : k ≠ w.heap.size + 1 + 1) => puts_ne (g := w.heap.size + 1 + 1) [(0, .slice P g cg), (1, .slice A n c), (2, .slice Z m cm), (3, .slice Y p cp), (4, .int .i64 D.cost.a), (5, .int .i64 D.cost.b), (6, .int .i64 D.cost.c), (7, .int .i64 D.cost.d), (8, .int .i64 D.bud.a), (9, .int .i64 D.bud.b), (10, .int .i64 D.bud.c), (11, .int .i64 D.bud.d), (12, .int .i64 D.floor), (13, .slice Q q cq)] w2 hk
    have hb := puts_below (g := w.heap.size + 1 + 1) [(0, .slice P g cg), (1, .slice A n c), (2, .slice Z m cm), (3, .slice Y p cp), (4, .int .i64 D.cost.a), (5, .int .i64 D.cost.b), (6, .int .i64 D.cost.c), (7, .int .i64 D.cost.d), (8, .int .i64 D.bud.a), (9, .int .i64 D.bud.b), (10, .int .i64 D.bud.c), (11, .int .i64 D.bud.d), (12, .int .i64 D.floor), (13, .slice Q q cq)] w2 HB2.out (by omega)
    have FIN := Lib.hid (show JAsk P A Z Y Q q cq g cg n c m cm p cp D t lo w (.returned (.tuple #[.agg #[.slice P g cg, .slice A n c, .slice Z m cm, .slice Y p cp, .int .i64 D.cost.a, .int .i64 D.cost.b, .int .i64 D.cost.c, .int .i64 D.cost.d, .int .i64 D.bud.a, .int .i64 D.bud.b, .int .i64 D.bud.c, .int .i64 D.bud.d, .int .i64 D.floor, .slice Q q cq], .slice none 0 0, .int .i64 K])) (puts w2 (w.heap.size + 1 + 1) [(0, .slice P g cg), (1, .slice A n c), (2, .slice Z m cm), (3, .slice Y p cp), (4, .int .i64 D.cost.a), (5, .int .i64 D.cost.b), (6, .int .i64 D.cost.c), (7, .int .i64 D.cost.d), (8, .int .i64 D.bud.a), (9, .int .i64 D.bud.b), (10, .int .i64 D.bud.c), (11, .int .i64 D.bud.d), (12, .int .i64 D.floor), (13, .slice Q q cq)]) from ⟨Q, q, cq, none, 0, 0, by rw [hK.out], by rw [asked_1 (by rw [hK.out]; exact HK.out)]; exact HQ2.out.off Xr2.out (by decide) (by decide) hn hz, by rw [cells_1 (by rw [hK.out]; exact HK.out)]; exact ⟨Own.nil_, (fun k hk => by cases hk), by omega⟩, hb, fun r hr => .inl hr, .inl ⟨rfl, rfl, rfl, asked_1 (by rw [hK.out]; exact HK.out)⟩⟩)
    clear tt hz hn hb rr
    go_wp2
    exact bodyPost_ret (v := .tuple #[.agg #[.slice P g cg, .slice A n c, .slice Z m cm, .slice Y p cp, .int .i64 D.cost.a, .int .i64 D.cost.b, .int .i64 D.cost.c, .int .i64 D.cost.d, .int .i64 D.bud.a, .int .i64 D.bud.b, .int .i64 D.bud.c, .int .i64 D.bud.d, .int .i64 D.floor, .slice Q q cq], .slice none 0 0, .int .i64 K]) (by simp [results, Tryz.results93, go_sem, rr0, rr1, rr2, rr3, rr4, rr5, rr6, rr7, rr8, rr9, rr10, rr11, rr12, rr13]) rfl FIN.out
end
end Go.Proofs.YtfanpbfmnckmnaaGreat
