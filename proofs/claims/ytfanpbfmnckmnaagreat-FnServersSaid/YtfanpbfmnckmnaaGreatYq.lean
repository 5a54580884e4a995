/- Several small texts in one: DgG, DgH. -/
import Derived.Test.YtfanpbfmnckmnaaGreatYp
import Derived.Test.YtfanpbfmnckmnaaGreatYa
import Derived.Deep.RegionLaw
namespace Go.Proofs.YtfanpbfmnckmnaaGreat

section
open Go.RowKit

/-- A drawn loss while it is spoilt: the box at b, the result's box at a. -/
structure LoS (w0 w : World) (g L a b : Nat) (x : LosD) : Prop where
  c : Cur w g L
  ch : Chg g (g + 1) w0 w
  bx : w.heap[b]? = some (.cells #[.int .i64 x.a, .int .i64 x.b, .int .i64 x.c, .int .i64 x.d] 42 (0, 0))
  rx : w.heap[a]? = some (.cells #[.int .i64 0, .int .i64 0, .int .i64 0, .int .i64 0] 42 (0, 0))
  ab : w0.heap.size ≤ a ∧ a < b
section
variable {w0 w w' : World} {g L L' a b : Nat} {x : LosD}
theorem LoS.chg (h : LoS w0 w g L a b x) (hg : g < w0.heap.size) (hc : Cur w' g L') (hx : Chg g (g + 1) w w') : LoS w0 w' g L' a b x :=
  ⟨hc, h.ch.trans hx, box_chg h.bx hx (by have := h.ab; omega), box_chg h.rx hx (by have := h.ab; omega), h.ab⟩
theorem LoS.put {i j : Nat} {u v : Value} {y : LosD} (h : LoS w0 w g L a b x) (hg : g < w0.heap.size) (he : (#[.int .i64 x.a, .int .i64 x.b, .int .i64 x.c, .int .i64 x.d].setIfInBounds i u).setIfInBounds j v = #[.int .i64 y.a, .int .i64 y.b, .int .i64 y.c, .int .i64 y.d]) : LoS w0 ((w.setCell ⟨b, i, none⟩ u).setCell ⟨b, j, none⟩ v) g L a b y := by
  have hb := h.ab
  refine ⟨(h.c.far (by show g < b; omega) _).far (by show g < b; omega) _, (h.ch.setNewD (by show w0.heap.size ≤ b; omega) _).setNewD (by show w0.heap.size ≤ b; omega) _, ?_, box_off (box_off h.rx (by show a ≠ b; omega) _) (by show a ≠ b; omega) _, hb⟩
  rw [← he]; exact box_set (box_set h.bx i u) j v
theorem LoS.quit (h : LoS w0 w g L a b x) (hg : g < w0.heap.size) {x0 x1 x2 x3 : Value} :
    let W := (((w.setCell ⟨a, 0, none⟩ x0).setCell ⟨a, 1, none⟩ x1).setCell ⟨a, 2, none⟩ x2).setCell ⟨a, 3, none⟩ x3
    Cur W g L ∧ Chg g (g + 1) w0 W := by
  have hb := h.ab
  have ga : g < a := by omega
  exact ⟨(((h.c.far (by exact ga) _).far (by exact ga) _).far (by exact ga) _).far (by exact ga) _, (((h.ch.setNewD (by exact hb.1) _).setNewD (by exact hb.1) _).setNewD (by exact hb.1) _).setNewD (by exact hb.1) _⟩
end

set_option maxRecDepth 100000 in
set_option maxHeartbeats 2000000 in
theorem frac_any (g L : Nat) (w : World) (h : Cur w g L) (hL : L ≤ 796000) :
    Calls Tryz.prog 211 #[.pointer (some ⟨g, 0, none⟩)] w (DTwo g (L + 4) w) := by
  have hlt := h.lt
  have hc0 := h
  have hG0 := Chg.refl g (g + 1) w
  clear h
  go_enter Tryz.func211, Tryz.ntmps211
  go_wp2_with fail
  have xr := box_new w #[.int .i64 0, .int .i64 0] 40
  have hc1 := hc0.below (below_new w (.cells #[.int .i64 0, .int .i64 0] 40))
  have hG1 := hG0.alloc (.cells #[.int .i64 0, .int .i64 0] 40)
  have z1 : w.heap.size + 1 ≤ (w.alloc (.cells #[.int .i64 0, .int .i64 0] 40)).heap.size := by simp
  clear hc0 hG0
  generalize w.alloc (.cells #[.int .i64 0, .int .i64 0] 40) = u1 at *
  refine (pick_any g _ _ _ hc1 (by omega) (by omega)).mono ?_
  rintro e w2 ⟨v2, rfl, v2l, v2u, hc2, hg2⟩
  replace xr := box_chg xr hg2 (by omega)
  have hG2 := hG1.trans hg2
  have z2 := hg2.size
  clear hc1 hG1 hg2
  replace v2u : v2 ≤ 40 := by simpa using v2u
  go_wp2_with fail
  refine (pick_any g _ _ _ hc2 (by omega) (by omega)).mono ?_
  rintro e w3 ⟨v3, rfl, v3l, v3u, hc3, hg3⟩
  replace xr := box_chg xr hg3 (by omega)
  have hG3 := hG2.trans hg3
  have z3 := hg3.size
  clear hc2 hG2 hg3
  replace v3u : v3 ≤ 11 := by simpa using v3u
  go_wp2_with fail
  refine (fMake_any _ _ _ (by omega) (by omega) (by omega) (by omega)).mono ?_
  rintro e w4 ⟨rfl, hb4⟩
  replace xr := bxb xr hb4
  have hc4 := hc3.below hb4
  have hG4 := hG3.then_ hb4
  have z4 := hb4.size
  clear hc3 hG3 hb4
  obtain ⟨f4, hf4⟩ : ∃ x, fN (redO (v2 - 20) (1 + v3)) = x := ⟨_, rfl⟩
  obtain ⟨d4, hd4⟩ : ∃ x, fD (redO (v2 - 20) (1 + v3)) = x := ⟨_, rfl⟩
  obtain ⟨b4, hb4⟩ : ∃ x, fB (redO (v2 - 20) (1 + v3)) = x := ⟨_, rfl⟩
  rw [hf4, hd4, hb4]
  clear hf4 hd4 hb4
  have cr0 := bxc xr 0 _ rfl
  have fr0 := bxf xr 0
  have cr1 := bxc xr 1 _ rfl
  have fr1 := bxf xr 1
  have lr := lt_of_block xr
  have y4 := store_two xr (.int .i64 f4) (.int .i64 d4)
  replace y4 := bxb y4 (below_new _ (.cells #[.int .i64 f4, .int .i64 d4] 40))
  have e0 := bxc y4 0 _ rfl
  have e1 := bxc y4 1 _ rfl
  go_wp2
  refine bodyPost_ret (v := .agg #[.int .i64 f4, .int .i64 d4]) (by simp [results, Tryz.results211, go_sem, e0, e1]) rfl ⟨f4, d4, rfl, (((hc4.far (p := ⟨w.heap.size, 0, none⟩) (by show g < w.heap.size; omega) (.int .i64 f4)).far (p := ⟨w.heap.size, 1, none⟩) (by show g < w.heap.size; omega) (.int .i64 d4)).below (below_new _ (.cells #[.int .i64 f4, .int .i64 d4] 40))).mono (by omega), (((hG4.setNewD (p := ⟨w.heap.size, 0, none⟩) (by show w.heap.size ≤ w.heap.size; omega) (.int .i64 f4)).setNewD (p := ⟨w.heap.size, 1, none⟩) (by show w.heap.size ≤ w.heap.size; omega) (.int .i64 d4)).alloc (.cells #[.int .i64 f4, .int .i64 d4] 40))⟩

set_option maxRecDepth 100000 in
set_option maxHeartbeats 2000000 in
theorem anyFrac_any (g L : Nat) (w : World) (h : Cur w g L) (hL : L ≤ 795000) :
    Calls Tryz.prog 189 #[.pointer (some ⟨g, 0, none⟩)] w (DTwo g (L + 6) w) := by
  have hlt := h.lt
  have hc0 := h
  have hG0 := Chg.refl g (g + 1) w
  clear h
  go_enter Tryz.func189, Tryz.ntmps189
  go_wp2_with fail
  have xr := box_new w #[.int .i64 0, .int .i64 0] 40
  have hc1 := hc0.below (below_new w (.cells #[.int .i64 0, .int .i64 0] 40))
  have hG1 := hG0.alloc (.cells #[.int .i64 0, .int .i64 0] 40)
  have z1 : w.heap.size + 1 ≤ (w.alloc (.cells #[.int .i64 0, .int .i64 0] 40)).heap.size := by simp
  clear hc0 hG0
  generalize w.alloc (.cells #[.int .i64 0, .int .i64 0] 40) = u1 at *
  refine (pick_any g _ _ _ hc1 (by omega) (by omega)).mono ?_
  rintro e w2 ⟨v2, rfl, v2l, v2u, hc2, hg2⟩
  replace xr := box_chg xr hg2 (by omega)
  have hG2 := hG1.trans hg2
  have z2 := hg2.size
  clear hc1 hG1 hg2
  replace v2u : v2 ≤ 15 := by simpa using v2u
  by_cases tv20 : v2 = 0
  · subst tv20
    go_wp2_with fail
    have xlit3 := box_new w2 #[.int .i64 1000000000, .int .i64 (-1000000000), .int .i64 999999999, .int .i64 1000000001] 3
    replace xr := bxb xr (below_new w2 (.cells #[.int .i64 1000000000, .int .i64 (-1000000000), .int .i64 999999999, .int .i64 1000000001] 3))
    have hc3 := hc2.below (below_new w2 (.cells #[.int .i64 1000000000, .int .i64 (-1000000000), .int .i64 999999999, .int .i64 1000000001] 3))
    have hG3 := hG2.alloc (.cells #[.int .i64 1000000000, .int .i64 (-1000000000), .int .i64 999999999, .int .i64 1000000001] 3)
    have z3 : w2.heap.size + 1 ≤ (w2.alloc (.cells #[.int .i64 1000000000, .int .i64 (-1000000000), .int .i64 999999999, .int .i64 1000000001] 3)).heap.size := by simp
    clear hc2 hG2
    generalize w2.alloc (.cells #[.int .i64 1000000000, .int .i64 (-1000000000), .int .i64 999999999, .int .i64 1000000001] 3) = u3 at *
    have olit3 := own_lit [1000000000, -1000000000, 999999999, 1000000001] xlit3 (by decide)
    clear xlit3
    refine (among_any g _ _ _ _ _ _ (-1000000000) (1000000001) [1000000000, -1000000000, 999999999, 1000000001] _ hc3 (by omega) olit3 (by omega) (by decide) (by decide) (by decide)).mono ?_
    rintro e w4 ⟨v4, rfl, v4l, v4u, hc4, hg4⟩
    replace xr := box_chg xr hg4 (by omega)
    have hG4 := hG3.trans hg4
    have z4 := hg4.size
    clear hc3 hG3 hg4
    clear olit3
    go_wp2_with fail
    have xlit5 := box_new w4 #[.int .i64 1, .int .i64 7, .int .i64 999999999, .int .i64 999999937] 3
    replace xr := bxb xr (below_new w4 (.cells #[.int .i64 1, .int .i64 7, .int .i64 999999999, .int .i64 999999937] 3))
    have hc5 := hc4.below (below_new w4 (.cells #[.int .i64 1, .int .i64 7, .int .i64 999999999, .int .i64 999999937] 3))
    have hG5 := hG4.alloc (.cells #[.int .i64 1, .int .i64 7, .int .i64 999999999, .int .i64 999999937] 3)
    have z5 : w4.heap.size + 1 ≤ (w4.alloc (.cells #[.int .i64 1, .int .i64 7, .int .i64 999999999, .int .i64 999999937] 3)).heap.size := by simp
    clear hc4 hG4
    generalize w4.alloc (.cells #[.int .i64 1, .int .i64 7, .int .i64 999999999, .int .i64 999999937] 3) = u5 at *
    have olit5 := own_lit [1, 7, 999999999, 999999937] xlit5 (by decide)
    clear xlit5
    refine (among_any g _ _ _ _ _ _ (1) (999999999) [1, 7, 999999999, 999999937] _ hc5 (by omega) olit5 (by omega) (by decide) (by decide) (by decide)).mono ?_
    rintro e w6 ⟨v6, rfl, v6l, v6u, hc6, hg6⟩
    replace xr := box_chg xr hg6 (by omega)
    have hG6 := hG5.trans hg6
    have z6 := hg6.size
    clear hc5 hG5 hg6
    clear olit5
    have cr0 := bxc xr 0 _ rfl
    have fr0 := bxf xr 0
    have cr1 := bxc xr 1 _ rfl
    have fr1 := bxf xr 1
    have lr := lt_of_block xr
    have y4 := store_two xr (.int .i64 v4) (.int .i64 v6)
    have e0 := bxc y4 0 _ rfl
    have e1 := bxc y4 1 _ rfl
    go_wp2
    refine bodyPost_ret (v := .agg #[.int .i64 v4, .int .i64 v6]) (by simp [results, Tryz.results189, go_sem, e0, e1]) rfl ⟨v4, v6, rfl, ((hc6.far (p := ⟨w.heap.size, 0, none⟩) (by show g < w.heap.size; omega) (.int .i64 v4)).far (p := ⟨w.heap.size, 1, none⟩) (by show g < w.heap.size; omega) (.int .i64 v6)).mono (by omega), ((hG6.setNewD (p := ⟨w.heap.size, 0, none⟩) (by show w.heap.size ≤ w.heap.size; omega) (.int .i64 v4)).setNewD (p := ⟨w.heap.size, 1, none⟩) (by show w.heap.size ≤ w.heap.size; omega) (.int .i64 v6))⟩
  · have tv20E : (v2 == 0) = false := by rw [beq_eq_false_iff_ne]; exact tv20
    by_cases tv21 : v2 = 1
    · subst tv21
      go_wp2_with fail
      refine (pick_any g _ _ _ hc2 (by omega) (by omega)).mono ?_
      rintro e w7 ⟨v7, rfl, v7l, v7u, hc7, hg7⟩
      replace xr := box_chg xr hg7 (by omega)
      have hG7 := hG2.trans hg7
      have z7 := hg7.size
      clear hc2 hG2 hg7
      replace v7u : v7 ≤ 8 := by simpa using v7u
      go_wp2_with fail
      refine (pick_any g _ _ _ hc7 (by omega) (by omega)).mono ?_
      rintro e w8 ⟨v8, rfl, v8l, v8u, hc8, hg8⟩
      replace xr := box_chg xr hg8 (by omega)
      have hG8 := hG7.trans hg8
      have z8 := hg8.size
      clear hc7 hG7 hg8
      replace v8u : v8 ≤ 6 := by simpa using v8u
      have cr0 := bxc xr 0 _ rfl
      have fr0 := bxf xr 0
      have cr1 := bxc xr 1 _ rfl
      have fr1 := bxf xr 1
      have lr := lt_of_block xr
      have y4 := store_two xr (.int .i64 (v7 - 4)) (.int .i64 (v8 - 1))
      have e0 := bxc y4 0 _ rfl
      have e1 := bxc y4 1 _ rfl
      go_wp2
      refine bodyPost_ret (v := .agg #[.int .i64 (v7 - 4), .int .i64 (v8 - 1)]) (by simp [results, Tryz.results189, go_sem, e0, e1]) rfl ⟨(v7 - 4), (v8 - 1), rfl, ((hc8.far (p := ⟨w.heap.size, 0, none⟩) (by show g < w.heap.size; omega) (.int .i64 (v7 - 4))).far (p := ⟨w.heap.size, 1, none⟩) (by show g < w.heap.size; omega) (.int .i64 (v8 - 1))).mono (by omega), ((hG8.setNewD (p := ⟨w.heap.size, 0, none⟩) (by show w.heap.size ≤ w.heap.size; omega) (.int .i64 (v7 - 4))).setNewD (p := ⟨w.heap.size, 1, none⟩) (by show w.heap.size ≤ w.heap.size; omega) (.int .i64 (v8 - 1)))⟩
    · have tv21E : (v2 == 1) = false := by rw [beq_eq_false_iff_ne]; exact tv21
      by_cases tv22 : v2 = 2
      · subst tv22
        go_wp2_with fail
        refine (pick_any g _ _ _ hc2 (by omega) (by omega)).mono ?_
        rintro e w9 ⟨v9, rfl, v9l, v9u, hc9, hg9⟩
        replace xr := box_chg xr hg9 (by omega)
        have hG9 := hG2.trans hg9
        have z9 := hg9.size
        clear hc2 hG2 hg9
        replace v9u : v9 ≤ 2 := by simpa using v9u
        go_wp2_with fail
        have xlit10 := box_new w9 #[.int .i64 1000000000, .int .i64 1000000001, .int .i64 999999937] 3
        replace xr := bxb xr (below_new w9 (.cells #[.int .i64 1000000000, .int .i64 1000000001, .int .i64 999999937] 3))
        have hc10 := hc9.below (below_new w9 (.cells #[.int .i64 1000000000, .int .i64 1000000001, .int .i64 999999937] 3))
        have hG10 := hG9.alloc (.cells #[.int .i64 1000000000, .int .i64 1000000001, .int .i64 999999937] 3)
        have z10 : w9.heap.size + 1 ≤ (w9.alloc (.cells #[.int .i64 1000000000, .int .i64 1000000001, .int .i64 999999937] 3)).heap.size := by simp
        clear hc9 hG9
        generalize w9.alloc (.cells #[.int .i64 1000000000, .int .i64 1000000001, .int .i64 999999937] 3) = u10 at *
        have olit10 := own_lit [1000000000, 1000000001, 999999937] xlit10 (by decide)
        clear xlit10
        refine (among_any g _ _ _ _ _ _ (999999937) (1000000001) [1000000000, 1000000001, 999999937] _ hc10 (by omega) olit10 (by omega) (by decide) (by decide) (by decide)).mono ?_
        rintro e w11 ⟨v11, rfl, v11l, v11u, hc11, hg11⟩
        replace xr := box_chg xr hg11 (by omega)
        have hG11 := hG10.trans hg11
        have z11 := hg11.size
        clear hc10 hG10 hg11
        clear olit10
        have cr0 := bxc xr 0 _ rfl
        have fr0 := bxf xr 0
        have cr1 := bxc xr 1 _ rfl
        have fr1 := bxf xr 1
        have lr := lt_of_block xr
        have y4 := store_two xr (.int .i64 v9) (.int .i64 v11)
        have e0 := bxc y4 0 _ rfl
        have e1 := bxc y4 1 _ rfl
        go_wp2
        refine bodyPost_ret (v := .agg #[.int .i64 v9, .int .i64 v11]) (by simp [results, Tryz.results189, go_sem, e0, e1]) rfl ⟨v9, v11, rfl, ((hc11.far (p := ⟨w.heap.size, 0, none⟩) (by show g < w.heap.size; omega) (.int .i64 v9)).far (p := ⟨w.heap.size, 1, none⟩) (by show g < w.heap.size; omega) (.int .i64 v11)).mono (by omega), ((hG11.setNewD (p := ⟨w.heap.size, 0, none⟩) (by show w.heap.size ≤ w.heap.size; omega) (.int .i64 v9)).setNewD (p := ⟨w.heap.size, 1, none⟩) (by show w.heap.size ≤ w.heap.size; omega) (.int .i64 v11))⟩
      · have tv22E : (v2 == 2) = false := by rw [beq_eq_false_iff_ne]; exact tv22
        go_wp2_with fail
        refine (frac_any g _ _ hc2 (by omega)).mono ?_
        rintro e w12 ⟨p12, q12, rfl, hc12, hg12⟩
        replace xr := box_chg xr hg12 (by omega)
        have hG12 := hG2.trans hg12
        have z12 := hg12.size
        clear hc2 hG2 hg12
        have cr0 := bxc xr 0 _ rfl
        have fr0 := bxf xr 0
        have cr1 := bxc xr 1 _ rfl
        have fr1 := bxf xr 1
        have lr := lt_of_block xr
        have y4 := store_two xr (.int .i64 p12) (.int .i64 q12)
        have e0 := bxc y4 0 _ rfl
        have e1 := bxc y4 1 _ rfl
        go_wp2
        refine bodyPost_ret (v := .agg #[.int .i64 p12, .int .i64 q12]) (by simp [results, Tryz.results189, go_sem, e0, e1]) rfl ⟨p12, q12, rfl, ((hc12.far (p := ⟨w.heap.size, 0, none⟩) (by show g < w.heap.size; omega) (.int .i64 p12)).far (p := ⟨w.heap.size, 1, none⟩) (by show g < w.heap.size; omega) (.int .i64 q12)).mono (by omega), ((hG12.setNewD (p := ⟨w.heap.size, 0, none⟩) (by show w.heap.size ≤ w.heap.size; omega) (.int .i64 p12)).setNewD (p := ⟨w.heap.size, 1, none⟩) (by show w.heap.size ≤ w.heap.size; omega) (.int .i64 q12))⟩

set_option maxRecDepth 100000 in
set_option maxHeartbeats 4000000 in
theorem anyLoss_any (g L : Nat) (w : World) (h : Cur w g L) (hL : L ≤ 400000) :
    Calls Tryz.prog 154 #[.pointer (some ⟨g, 0, none⟩)] w (DLos (fun _ => True) g (L + 40) w) := by
  have hlt := h.lt
  have b0 := below_new w (.cells #[.int .i64 0, .int .i64 0, .int .i64 0, .int .i64 0] 42)
  have xr := box_new w #[.int .i64 0, .int .i64 0, .int .i64 0, .int .i64 0] 42
  have hc0 := h.below b0
  have hG0 : Chg g (g + 1) w (w.alloc (.cells #[.int .i64 0, .int .i64 0, .int .i64 0, .int .i64 0] 42)) := Chg.of_below b0
  have z0 : w.heap.size < (w.alloc (.cells #[.int .i64 0, .int .i64 0, .int .i64 0, .int .i64 0] 42)).heap.size := by simp
  clear h b0
  go_enter Tryz.func154, Tryz.ntmps154
  go_wp2_with fail
  generalize w.alloc (.cells #[.int .i64 0, .int .i64 0, .int .i64 0, .int .i64 0] 42) = w1 at *
  refine (lossD_any g _ _ hc0 (by omega)).mono ?_
  rintro e w2 ⟨x, rfl, _, hc2, hg2⟩
  have z2 := hg2.size
  have b3 := below_new w2 (.cells #[.int .i64 x.a, .int .i64 x.b, .int .i64 x.c, .int .i64 x.d] 42)
  have hS3 : LoS w (w2.alloc (.cells #[.int .i64 x.a, .int .i64 x.b, .int .i64 x.c, .int .i64 x.d] 42)) g (L + 8) w.heap.size w2.heap.size x := ⟨hc2.below b3, (hG0.trans hg2).then_ b3, box_new _ _ _, bxb (box_chg xr hg2 (by omega)) b3, by omega⟩
  clear hc0 hG0 xr hc2 hg2 b3
  go_wp2_with fail
  generalize w2.alloc (.cells #[.int .i64 x.a, .int .i64 x.b, .int .i64 x.c, .int .i64 x.d] 42) = w3 at *
  refine (pick_any g _ _ _ hS3.c (by omega) (by omega)).mono ?_
  rintro e w4 ⟨v, rfl, v0, v1, hc4, hg4⟩
  have S4 := Lib.hid (hS3.chg hlt hc4 hg4)
  clear hS3 hc4 hg4 v0 v1
  by_cases t0 : v = 0
  · subst t0
    have hc := S4.out.c
    go_wp2_with fail
    refine (anyFrac_any g _ _ hc (by omega)).mono ?_
    rintro e w5 ⟨p, q, rfl, hc5, hg5⟩
    have S5 := Lib.hid (S4.out.chg hlt hc5 hg5)
    have S6 := Lib.hid (S5.out.put (i := 0) (j := 1) (u := .int .i64 p) (v := .int .i64 q) (y := ⟨p, q, x.c, x.d⟩) hlt rfl)
    have g0 := bxc S5.out.bx 0 _ rfl
    have h0 := bxf S5.out.bx 0
    have g1 := bxc S5.out.bx 1 _ rfl
    have h1 := bxf S5.out.bx 1
    clear hc hc5 hg5 S5 S4
    have R1 := Lib.hid (S6.out.quit hlt (x0 := .int .i64 p) (x1 := .int .i64 q) (x2 := .int .i64 x.c) (x3 := .int .i64 x.d))
    have rr := S6.out.rx
    have bb := S6.out.bx
    have p0 := bxc rr 0 _ rfl
    have f0 := bxf rr 0
    have i0 := bxc bb 0 (.int .i64 p) rfl
    have p1 := bxc rr 1 _ rfl
    have f1 := bxf rr 1
    have i1 := bxc bb 1 (.int .i64 q) rfl
    have p2 := bxc rr 2 _ rfl
    have f2 := bxf rr 2
    have i2 := bxc bb 2 (.int .i64 x.c) rfl
    have p3 := bxc rr 3 _ rfl
    have f3 := bxf rr 3
    have i3 := bxc bb 3 (.int .i64 x.d) rfl
    have tt := box_set (box_set (box_set (box_set rr 0 (.int .i64 p)) 1 (.int .i64 q)) 2 (.int .i64 x.c)) 3 (.int .i64 x.d)
    have r0 := bxc tt 0 (.int .i64 p) rfl
    have r1 := bxc tt 1 (.int .i64 q) rfl
    have r2 := bxc tt 2 (.int .i64 x.c) rfl
    have r3 := bxc tt 3 (.int .i64 x.d) rfl
    clear rr bb tt
    go_wp2
    exact bodyPost_ret (v := .agg #[.int .i64 p, .int .i64 q, .int .i64 x.c, .int .i64 x.d]) (by simp [results, Tryz.results154, go_sem, r0, r1, r2, r3]) rfl ⟨⟨p, q, x.c, x.d⟩, rfl, trivial, R1.out.1.mono (by omega), R1.out.2⟩
  · have t0E : (v == 0) = false := by rw [beq_eq_false_iff_ne]; exact t0
    by_cases t1 : v = 1
    · subst t1
      have hc := S4.out.c
      go_wp2_with fail
      refine (anyFrac_any g _ _ hc (by omega)).mono ?_
      rintro e w5 ⟨p, q, rfl, hc5, hg5⟩
      have S5 := Lib.hid (S4.out.chg hlt hc5 hg5)
      have S6 := Lib.hid (S5.out.put (i := 2) (j := 3) (u := .int .i64 p) (v := .int .i64 q) (y := ⟨x.a, x.b, p, q⟩) hlt rfl)
      have g0 := bxc S5.out.bx 2 _ rfl
      have h0 := bxf S5.out.bx 2
      have g1 := bxc S5.out.bx 3 _ rfl
      have h1 := bxf S5.out.bx 3
      clear hc hc5 hg5 S5 S4
      have R2 := Lib.hid (S6.out.quit hlt (x0 := .int .i64 x.a) (x1 := .int .i64 x.b) (x2 := .int .i64 p) (x3 := .int .i64 q))
      have rr := S6.out.rx
      have bb := S6.out.bx
      have p0 := bxc rr 0 _ rfl
      have f0 := bxf rr 0
      have i0 := bxc bb 0 (.int .i64 x.a) rfl
      have p1 := bxc rr 1 _ rfl
      have f1 := bxf rr 1
      have i1 := bxc bb 1 (.int .i64 x.b) rfl
      have p2 := bxc rr 2 _ rfl
      have f2 := bxf rr 2
      have i2 := bxc bb 2 (.int .i64 p) rfl
      have p3 := bxc rr 3 _ rfl
      have f3 := bxf rr 3
      have i3 := bxc bb 3 (.int .i64 q) rfl
      have tt := box_set (box_set (box_set (box_set rr 0 (.int .i64 x.a)) 1 (.int .i64 x.b)) 2 (.int .i64 p)) 3 (.int .i64 q)
      have r0 := bxc tt 0 (.int .i64 x.a) rfl
      have r1 := bxc tt 1 (.int .i64 x.b) rfl
      have r2 := bxc tt 2 (.int .i64 p) rfl
      have r3 := bxc tt 3 (.int .i64 q) rfl
      clear rr bb tt
      go_wp2
      exact bodyPost_ret (v := .agg #[.int .i64 x.a, .int .i64 x.b, .int .i64 p, .int .i64 q]) (by simp [results, Tryz.results154, go_sem, r0, r1, r2, r3]) rfl ⟨⟨x.a, x.b, p, q⟩, rfl, trivial, R2.out.1.mono (by omega), R2.out.2⟩
    · have t1E : (v == 1) = false := by rw [beq_eq_false_iff_ne]; exact t1
      by_cases t2 : v = 2
      · subst t2
        have b6 := below_new w4 (.cells #[.int .i64 1, .int .i64 999999937] 3)
        have hc := S4.out.c.below b6
        have o6 := own_lit [1, 999999937] (box_new w4 _ _) (by decide)
        have S6 : Hid (LoS w (w4.alloc (.cells #[.int .i64 1, .int .i64 999999937] 3)) g (L + 8 + 2) w.heap.size w2.heap.size x) := Lib.hid ⟨hc, S4.out.ch.then_ b6, bxb S4.out.bx b6, bxb S4.out.rx b6, S4.out.ab⟩
        have lt6 : g < w4.heap.size := Nat.lt_of_lt_of_le hlt S4.out.ch.size
        change OwnI (w4.alloc (.cells #[.int .i64 1, .int .i64 999999937] 3)) _ _ _ _ _ _ at o6
        go_wp2_with fail
        generalize w4.alloc (.cells #[.int .i64 1, .int .i64 999999937] 3) = w6 at *
        refine (amongM_any g _ _ _ _ _ _ [1, 999999937] _ hc (by omega) o6 (by omega) (by decide) (by decide)).mono ?_
        rintro e w7 ⟨y, rfl, _, hc7, hg7⟩
        have S7 := Lib.hid (S6.out.chg hlt hc7 hg7)
        have S8 := Lib.hid (S7.out.put (i := 0) (j := 1) (u := .int .i64 1000000000) (v := .int .i64 y) (y := ⟨1000000000, y, x.c, x.d⟩) hlt rfl)
        have g0 := bxc S7.out.bx 0 _ rfl
        have h0 := bxf S7.out.bx 0
        have g1 := bxc S7.out.bx 1 _ rfl
        have h1 := bxf S7.out.bx 1
        clear hc o6 S6 hc7 hg7 S7 S4
        have R3 := Lib.hid (S8.out.quit hlt (x0 := .int .i64 1000000000) (x1 := .int .i64 y) (x2 := .int .i64 x.c) (x3 := .int .i64 x.d))
        have rr := S8.out.rx
        have bb := S8.out.bx
        have p0 := bxc rr 0 _ rfl
        have f0 := bxf rr 0
        have i0 := bxc bb 0 (.int .i64 1000000000) rfl
        have p1 := bxc rr 1 _ rfl
        have f1 := bxf rr 1
        have i1 := bxc bb 1 (.int .i64 y) rfl
        have p2 := bxc rr 2 _ rfl
        have f2 := bxf rr 2
        have i2 := bxc bb 2 (.int .i64 x.c) rfl
        have p3 := bxc rr 3 _ rfl
        have f3 := bxf rr 3
        have i3 := bxc bb 3 (.int .i64 x.d) rfl
        have tt := box_set (box_set (box_set (box_set rr 0 (.int .i64 1000000000)) 1 (.int .i64 y)) 2 (.int .i64 x.c)) 3 (.int .i64 x.d)
        have r0 := bxc tt 0 (.int .i64 1000000000) rfl
        have r1 := bxc tt 1 (.int .i64 y) rfl
        have r2 := bxc tt 2 (.int .i64 x.c) rfl
        have r3 := bxc tt 3 (.int .i64 x.d) rfl
        clear rr bb tt
        go_wp2
        exact bodyPost_ret (v := .agg #[.int .i64 1000000000, .int .i64 y, .int .i64 x.c, .int .i64 x.d]) (by simp [results, Tryz.results154, go_sem, r0, r1, r2, r3]) rfl ⟨⟨1000000000, y, x.c, x.d⟩, rfl, trivial, R3.out.1.mono (by omega), R3.out.2⟩
      · have t2E : (v == 2) = false := by rw [beq_eq_false_iff_ne]; exact t2
        have R4 := Lib.hid (S4.out.quit hlt (x0 := .int .i64 x.a) (x1 := .int .i64 x.b) (x2 := .int .i64 x.c) (x3 := .int .i64 x.d))
        have rr := S4.out.rx
        have bb := S4.out.bx
        have p0 := bxc rr 0 _ rfl
        have f0 := bxf rr 0
        have i0 := bxc bb 0 (.int .i64 x.a) rfl
        have p1 := bxc rr 1 _ rfl
        have f1 := bxf rr 1
        have i1 := bxc bb 1 (.int .i64 x.b) rfl
        have p2 := bxc rr 2 _ rfl
        have f2 := bxf rr 2
        have i2 := bxc bb 2 (.int .i64 x.c) rfl
        have p3 := bxc rr 3 _ rfl
        have f3 := bxf rr 3
        have i3 := bxc bb 3 (.int .i64 x.d) rfl
        have tt := box_set (box_set (box_set (box_set rr 0 (.int .i64 x.a)) 1 (.int .i64 x.b)) 2 (.int .i64 x.c)) 3 (.int .i64 x.d)
        have r0 := bxc tt 0 (.int .i64 x.a) rfl
        have r1 := bxc tt 1 (.int .i64 x.b) rfl
        have r2 := bxc tt 2 (.int .i64 x.c) rfl
        have r3 := bxc tt 3 (.int .i64 x.d) rfl
        clear rr bb tt
        go_wp2
        exact bodyPost_ret (v := .agg #[.int .i64 x.a, .int .i64 x.b, .int .i64 x.c, .int .i64 x.d]) (by simp [results, Tryz.results154, go_sem, r0, r1, r2, r3]) rfl ⟨x, rfl, trivial, R4.out.1.mono (by omega), R4.out.2⟩
end

section
open Go.RowKit

section
variable {w0 w w' : World} {g L L' a b d : Nat} {P : Option Addr} {pn pc : Nat} {lv : Int} {V : Option Addr} {m cv : Nat} {xs : List Int} {U : Option Addr} {k cu : Nat} {us : List Int} {sm : Int}
/-- One condition more. -/
theorem TbS.growU {A2 : Option Addr} {c2 : Nat} {x : Int} (h : TbS w0 w g L a b d P pn pc lv V m cv xs U k cu us sm) (hg : g < w0.heap.size) (hw : w.grownBy w' (rowOf U)) (ho : Own w' w0.heap.size A2 (k + 1) c2 (us ++ [x])) (hr : rowOf A2 = rowOf U ∨ ∃ q, rowOf A2 = some q ∧ w.heap.size ≤ q) :
    TbS w0 (w'.setCell ⟨b, 2, none⟩ (.slice A2 (k + 1) c2)) g L a b d P pn pc lv V m cv xs A2 (k + 1) c2 (us ++ [x]) sm := by
  have hrow : ∀ j, rowOf U = some j → w0.heap.size ≤ j := fun j hj => (h.u.row_ge j hj).1
  have hb := h.ab
  have x1 := box_app2 h.bx hw (own_ne h.u h.bx (by decide))
  have x2 := box_app2 h.rx hw (own_ne h.u h.rx (by decide))
  have x3 := box_app2 h.dx hw (own_ne h.u h.dx (by decide))
  have v1 : Own w' w0.heap.size V m cv xs := h.v.far hw fun q hq => fun e => h.ap q e (by rw [hq]; rfl)
  refine ⟨(cur_app h.c hw (fun j hj => by have := hrow j hj; omega)).far (by show g < b; omega) _, (chg_app h.ch hw hrow).setNewD (by show w0.heap.size ≤ b; omega) _, v1.keep fun j hk _ => Below.heap_setCell w' ⟨b, 2, none⟩ _ j ?_, ho.keep fun j hk _ => Below.heap_setCell w' ⟨b, 2, none⟩ _ j ?_, fun r hu hv => ?_, box_set x1 2 _, box_off x2 (by show a ≠ b; omega) _, box_off x3 (by show d ≠ b; omega) _, hb⟩
  · rintro rfl; exact own_ne v1 x1 (by decide) (by rw [hk]; rfl)
  · rintro rfl; exact own_ne ho x1 (by decide) (by rw [hk]; rfl)
  · rcases hr with e | ⟨q, e, hq⟩
    · rw [e] at hu; exact h.ap r hu hv
    · rw [e] at hu
      injection hu with hu
      have := (h.v.row_ge r hv).2
      omega
/-- A store into the conditions. -/
theorem TbS.setU {gu i : Nat} {y : Int} (h : TbS w0 w g L a b d P pn pc lv V m cv xs (some ⟨gu, 0, none⟩) k cu us sm) (hg : g < w0.heap.size) :
    TbS w0 (w.setCell ⟨gu, i, none⟩ (.int .i64 y)) g L a b d P pn pc lv V m cv xs (some ⟨gu, 0, none⟩) k cu (us.set i y) sm := by
  have hgu := (h.u.row_ge gu rfl).1
  refine ⟨h.c.far (by show g < gu; omega) _, h.ch.setNewD (by show w0.heap.size ≤ gu; omega) _, h.v.keep fun j hk _ => Below.heap_setCell w ⟨gu, i, none⟩ _ j ?_, h.u.set, h.ap, box_off h.bx (by rintro rfl; exact own_ne h.u h.bx (by decide) rfl) _, box_off h.rx (by rintro rfl; exact own_ne h.u h.rx (by decide) rfl) _, box_off h.dx (by rintro rfl; exact own_ne h.u h.dx (by decide) rfl) _, h.ab⟩
  rintro rfl; exact h.ap _ rfl (by rw [hk]; rfl)
end

/-- A drawn table of any kind as a result. -/
def DTabA (n g L : Nat) (w : World) (e : Ending) (w' : World) : Prop := ∃ (lv : Int) (V : Option Addr) (m cv : Nat) (xs : List Int) (U : Option Addr) (k cu : Nat) (us : List Int) (sm : Int), e = .returned (.agg #[.int .i64 lv, .slice V m cv, .slice U k cu, .int .i64 sm]) ∧ m ≤ n + 1 ∧ k ≤ n + 1 ∧ OwnI w' w.heap.size w'.heap.size V m cv xs ∧ OwnI w' w.heap.size w'.heap.size U k cu us ∧ Cur w' g L ∧ Chg g (g + 1) w w'

set_option maxRecDepth 100000 in
set_option maxHeartbeats 4000000 in
theorem anyTable_any (g L lo lp hp n c pn pc : Nat) (P A : Option Addr) (ps : List Int) (vs : List (ByteArray × Int)) (w : World) (h : Cur w g L) (hL : L ≤ 300000) (oP : OwnI w lp hp P pn pc ps) (hlp : g < lp) (hs : DVr w lo A n c vs) (hlo : g < lo) (hsv : SchV vs) (hn : n ≤ 8) (hpn : pn ≤ 1000) :
    Calls Tryz.prog 156 #[.pointer (some ⟨g, 0, none⟩), .agg #[.slice P pn pc], .slice A n c] w (DTabA n g (L + 100) w) := by
  have hlt := h.lt
  have b0 := below_new w (.cells #[.slice P pn pc] 36)
  have xd := box_new w #[.slice P pn pc] 36
  have s0 := Lib.hid (show (w.alloc (.cells #[.slice P pn pc] 36)).heap.size = w.heap.size + 1 by simp)
  have b1 := b0.trans ((below_new (w.alloc (.cells #[.slice P pn pc] 36)) (.cells #[.int .i64 0, .slice none 0 0, .slice none 0 0, .int .i64 0] 56)).mono b0.size)
  have xr := box_new (w.alloc (.cells #[.slice P pn pc] 36)) #[.int .i64 0, .slice none 0 0, .slice none 0 0, .int .i64 0] 56
  rw [s0.out] at xr
  replace xd := bxb xd (below_new (w.alloc (.cells #[.slice P pn pc] 36)) (.cells #[.int .i64 0, .slice none 0 0, .slice none 0 0, .int .i64 0] 56))
  have s1 := Lib.hid (show ((w.alloc (.cells #[.slice P pn pc] 36)).alloc (.cells #[.int .i64 0, .slice none 0 0, .slice none 0 0, .int .i64 0] 56)).heap.size = w.heap.size + 1 + 1 by simp)
  have hc0 := h.below b1
  have hG0 : Chg g (g + 1) w ((w.alloc (.cells #[.slice P pn pc] 36)).alloc (.cells #[.int .i64 0, .slice none 0 0, .slice none 0 0, .int .i64 0] 56)) := Chg.of_below b1
  have oP1 := oP.below b1
  have hs1 := hs.below b1
  have d0 := bxc xd 0 _ rfl
  clear h b0 b1 s0 oP hs
  go_enter Tryz.func156, Tryz.ntmps156
  go_wp2_with fail
  generalize (w.alloc (.cells #[.slice P pn pc] 36)).alloc (.cells #[.int .i64 0, .slice none 0 0, .slice none 0 0, .int .i64 0] 56) = w1 at *
  have z1 : w.heap.size + 1 < w1.heap.size := by have := s1.out; omega
  refine (table_any g _ lo lp hp n c pn pc P A ps vs _ hc0 (by omega) oP1 hlp hs1 hlo hsv hn hpn).mono ?_
  rintro e w2 ⟨lv, V, m, cv, xs, U, cu, us, sm, rfl, hm, hap, oV, oU, hc2, hg2⟩
  have z2 := hg2.size
  have b3 := below_new w2 (.cells #[.int .i64 lv, .slice V m cv, .slice U n cu, .int .i64 sm] 56)
  have hS3 : TbS w (w2.alloc (.cells #[.int .i64 lv, .slice V m cv, .slice U n cu, .int .i64 sm] 56)) g (L + 80) (w.heap.size + 1) w2.heap.size w.heap.size P pn pc lv V m cv xs U n cu us sm :=
    ⟨hc2.below b3, (hG0.trans hg2).then_ b3, (oV.own.mono (by omega)).below b3, (oU.own.mono (by omega)).below b3, hap, box_new _ _ _, bxb (box_chg xr hg2 (by omega)) b3, bxb (box_chg xd hg2 (by omega)) b3, by omega⟩
  have z3 : w2.heap.size < (w2.alloc (.cells #[.int .i64 lv, .slice V m cv, .slice U n cu, .int .i64 sm] 56)).heap.size := by simp
  clear hc0 hG0 xd xr hs1 oV oU hc2 hg2 b3 d0 oP1
  go_wp2_with fail
  generalize w2.alloc (.cells #[.int .i64 lv, .slice V m cv, .slice U n cu, .int .i64 sm] 56) = w3 at *
  refine (pick_any g _ _ _ hS3.c (by omega) (by omega)).mono ?_
  rintro e w4 ⟨v, rfl, v0, v1, hc4, hg4⟩
  have S4 := Lib.hid (hS3.chg hlt hc4 hg4)
  clear hS3 hc4 hg4 v0 v1
  by_cases t0 : v = 0
  · subst t0
    have b6 := below_new w4 (.cells #[.int .i64 (-1), .int .i64 3, .int .i64 4] 3)
    have hc := S4.out.c.below b6
    have o6 := own_lit [-1, 3, 4] (box_new w4 _ _) (by decide)
    have S6 := Lib.hid (S4.out.below b6)
    have lt6 : g < w4.heap.size := Nat.lt_of_lt_of_le hlt S4.out.ch.size
    change OwnI (w4.alloc (.cells #[.int .i64 (-1), .int .i64 3, .int .i64 4] 3)) _ _ _ _ _ _ at o6
    go_wp2_with fail
    generalize w4.alloc (.cells #[.int .i64 (-1), .int .i64 3, .int .i64 4] 3) = w6 at *
    refine (amongM_any g _ _ _ _ _ _ [-1, 3, 4] _ hc (by omega) o6 (by omega) (by decide) (by decide)).mono ?_
    rintro e w7 ⟨y, rfl, _, hc7, hg7⟩
    have S7 := Lib.hid (S6.out.chg hlt hc7 hg7)
    have S8 := Lib.hid (S7.out.put (i := 0) (x := .int .i64 y) hlt rfl)
    have g0 := bxc S7.out.bx 0 _ rfl
    have h0 := bxf S7.out.bx 0
    clear hc o6 S6 hc7 hg7 S7 S4 b6
    have R1 := Lib.hid (S8.out.quit hlt (x0 := .int .i64 y) (x1 := .slice V (m) cv) (x2 := .slice U (n) cu) (x3 := .int .i64 sm))
    have rr := S8.out.rx
    have bb := S8.out.bx
    have p0 := bxc rr 0 _ rfl
    have f0 := bxf rr 0
    have i0 := bxc bb 0 (.int .i64 y) rfl
    have p1 := bxc rr 1 _ rfl
    have f1 := bxf rr 1
    have i1 := bxc bb 1 (.slice V (m) cv) rfl
    have p2 := bxc rr 2 _ rfl
    have f2 := bxf rr 2
    have i2 := bxc bb 2 (.slice U (n) cu) rfl
    have p3 := bxc rr 3 _ rfl
    have f3 := bxf rr 3
    have i3 := bxc bb 3 (.int .i64 sm) rfl
    have tt := box_set (box_set (box_set (box_set rr 0 (.int .i64 y)) 1 (.slice V (m) cv)) 2 (.slice U (n) cu)) 3 (.int .i64 sm)
    have r0 := bxc tt 0 (.int .i64 y) rfl
    have r1 := bxc tt 1 (.slice V (m) cv) rfl
    have r2 := bxc tt 2 (.slice U (n) cu) rfl
    have r3 := bxc tt 3 (.int .i64 sm) rfl
    clear rr bb tt
    go_wp2
    exact bodyPost_ret (v := .agg #[.int .i64 y, .slice V (m) cv, .slice U (n) cu, .int .i64 sm]) (by simp [results, Tryz.results156, go_sem, r0, r1, r2, r3]) rfl ⟨y, V, m, cv, xs, U, n, cu, us, sm, rfl, by omega, by omega, OwnI.of_own R1.out.1 (by omega), OwnI.of_own R1.out.2.1 (by omega), R1.out.2.2.1.mono (by omega), R1.out.2.2.2⟩
  · have t0E : (v == 0) = false := by rw [beq_eq_false_iff_ne]; exact t0
    by_cases t1 : v = 1
    · subst t1
      have b6 := below_new w4 (.cells #[.int .i64 (-1), .int .i64 0, .int .i64 6] 3)
      have S6a := S4.out.below b6
      have hcd : Cur (w4.alloc (.cells #[.int .i64 (-1), .int .i64 0, .int .i64 6] 3)).drew g (L + 80 + 2) := S6a.c
      have S6 := Lib.hid (S6a.chg hlt hcd (Chg.of_below (Below.refl _ _).drew))
      have o6 : OwnI (w4.alloc (.cells #[.int .i64 (-1), .int .i64 0, .int .i64 6] 3)).drew w4.heap.size (w4.heap.size + 1) (some ⟨w4.heap.size, 0, none⟩) 3 3 [-1, 0, 6] := own_lit [-1, 0, 6] (box_new w4 _ _) (by decide)
      have lt6 : g < w4.heap.size := Nat.lt_of_lt_of_le hlt S4.out.ch.size
      have e0 : w4.cell? ⟨w2.heap.size, 1, none⟩ = some (.slice V m cv) := bxc S4.out.bx 1 _ rfl
      have e6 : (w4.alloc (.cells #[.int .i64 (-1), .int .i64 0, .int .i64 6] 3)).cell? ⟨w2.heap.size, 1, none⟩ = some (.slice V m cv) := bxc S6a.bx 1 _ rfl
      have hpk := Lib.hid (amongM_any g _ _ _ _ _ _ [-1, 0, 6] _ hcd (by omega) o6 (by omega) (by decide) (by decide))
      clear S6a b6
      go_wp2_with fail
      go_region_law ((first | (go_simp; go_at_call 86; refine hpk.out.mono ?_; rintro e w7 ⟨y, rfl, hym, hc7, hg7⟩; have S7 := Lib.hid (S6.out.chg hlt hc7 hg7); have q0 : w7.cell? ⟨w2.heap.size, 1, none⟩ = some (.slice V m cv) := bxc S7.out.bx 1 _ rfl; have q5 : (w7.alloc (.cells #[.int .i64 y] 3)).cell? ⟨w2.heap.size, 1, none⟩ = some (.slice V m cv) := bxc (bxb S7.out.bx (below_new _ _)) 1 _ rfl; have q1 := bxf S7.out.bx 1; have hz7 := hg7.size; have o7 := S7.out.v; have hB7 : w.heap.size ≤ w7.heap.size := S7.out.ch.size; dsimp only) | (refine step_app1 (by rfl) _ _ (by rfl) w.heap.size V m cv xs (by rfl) (by exact o7) _ (by rfl) (by rfl) (by omega) (by omega) ?_; intro A3 c3 w9 own9 grow9 hr9; have S9 := Lib.hid (S7.out.grow hlt grow9 own9 (hr9.imp id fun e => ⟨_, e, by omega⟩)); have q2 : w9.cell? ⟨w2.heap.size, 1, none⟩ = some (.slice V m cv) := bxc (box_app2 S7.out.bx grow9 (own_ne o7 S7.out.bx (by decide))) 1 _ rfl; have q3 := bxf (box_app2 S7.out.bx grow9 (own_ne o7 S7.out.bx (by decide))) 1)))
      all_goals (clear q0 q1 q2 q3 q5 o7 own9 grow9 hr9 hz7 hB7 hc7 hg7 hym e0 e6 hpk o6 hcd)
      all_goals (have R5 := Lib.hid (S9.out.quit hlt (x0 := .int .i64 lv) (x1 := .slice A3 (m + 1) c3) (x2 := .slice U (n) cu) (x3 := .int .i64 sm)); have rr := S9.out.rx; have bb := S9.out.bx; have p0 := bxc rr 0 _ rfl; have f0 := bxf rr 0; have i0 := bxc bb 0 (.int .i64 lv) rfl; have p1 := bxc rr 1 _ rfl; have f1 := bxf rr 1; have i1 := bxc bb 1 (.slice A3 (m + 1) c3) rfl; have p2 := bxc rr 2 _ rfl; have f2 := bxf rr 2; have i2 := bxc bb 2 (.slice U (n) cu) rfl; have p3 := bxc rr 3 _ rfl; have f3 := bxf rr 3; have i3 := bxc bb 3 (.int .i64 sm) rfl; have tt := box_set (box_set (box_set (box_set rr 0 (.int .i64 lv)) 1 (.slice A3 (m + 1) c3)) 2 (.slice U (n) cu)) 3 (.int .i64 sm); have r0 := bxc tt 0 (.int .i64 lv) rfl; have r1 := bxc tt 1 (.slice A3 (m + 1) c3) rfl; have r2 := bxc tt 2 (.slice U (n) cu) rfl; have r3 := bxc tt 3 (.int .i64 sm) rfl; clear rr bb tt)
      all_goals go_wp2
      all_goals exact bodyPost_ret (v := .agg #[.int .i64 lv, .slice A3 (m + 1) c3, .slice U (n) cu, .int .i64 sm]) (by simp [results, Tryz.results156, go_sem, r0, r1, r2, r3]) rfl ⟨lv, A3, m + 1, c3, _, U, n, cu, us, sm, rfl, by omega, by omega, OwnI.of_own R5.out.1 (by omega), OwnI.of_own R5.out.2.1 (by omega), R5.out.2.2.1.mono (by omega), R5.out.2.2.2⟩
    · have t1E : (v == 1) = false := by rw [beq_eq_false_iff_ne]; exact t1
      by_cases t2 : v = 2
      · subst t2
        have e1 : w4.cell? ⟨w2.heap.size, 2, none⟩ = some (.slice U n cu) := bxc S4.out.bx 2 _ rfl
        have o5 := S4.out.u
        have hB5 : w.heap.size ≤ w4.heap.size := S4.out.ch.size
        go_wp2_with (at_builtin; refine wp_app1 rfl _ _ rfl w.heap.size U n cu _ rfl o5 _ rfl rfl (by omega) hB5 ?_; intro A3 c4 w9 hown9 hg9 hr9; have S9 := Lib.hid (S4.out.growU hlt hg9 hown9 (hr9.imp id fun e => ⟨_, e, by omega⟩)); have q9 := box_app2 S4.out.bx hg9 (own_ne S4.out.u S4.out.bx (by decide)); have e9 := bxc q9 2 _ rfl; have f9 := bxf q9 2; have r9 := S9.out.rx; have s9 := S9.out.bx; clear hown9 hg9 hr9 q9; have R4 := Lib.hid (S9.out.quit hlt (x0 := .int .i64 lv) (x1 := .slice V (m) cv) (x2 := .slice A3 (n + 1) c4) (x3 := .int .i64 sm)); have rr := S9.out.rx; have bb := S9.out.bx; have p0 := bxc rr 0 _ rfl; have f0 := bxf rr 0; have i0 := bxc bb 0 (.int .i64 lv) rfl; have p1 := bxc rr 1 _ rfl; have f1 := bxf rr 1; have i1 := bxc bb 1 (.slice V (m) cv) rfl; have p2 := bxc rr 2 _ rfl; have f2 := bxf rr 2; have i2 := bxc bb 2 (.slice A3 (n + 1) c4) rfl; have p3 := bxc rr 3 _ rfl; have f3 := bxf rr 3; have i3 := bxc bb 3 (.int .i64 sm) rfl; have tt := box_set (box_set (box_set (box_set rr 0 (.int .i64 lv)) 1 (.slice V (m) cv)) 2 (.slice A3 (n + 1) c4)) 3 (.int .i64 sm); have r0 := bxc tt 0 (.int .i64 lv) rfl; have r1 := bxc tt 1 (.slice V (m) cv) rfl; have r2 := bxc tt 2 (.slice A3 (n + 1) c4) rfl; have r3 := bxc tt 3 (.int .i64 sm) rfl; clear rr bb tt)
        exact bodyPost_ret (v := .agg #[.int .i64 lv, .slice V (m) cv, .slice A3 (n + 1) c4, .int .i64 sm]) (by simp [results, Tryz.results156, go_sem, r0, r1, r2, r3]) rfl ⟨lv, V, m, cv, xs, A3, n + 1, c4, _, sm, rfl, by omega, by omega, OwnI.of_own R4.out.1 (by omega), OwnI.of_own R4.out.2.1 (by omega), R4.out.2.2.1.mono (by omega), R4.out.2.2.2⟩
      · have t2E : (v == 2) = false := by rw [beq_eq_false_iff_ne]; exact t2
        by_cases t3 : v = 3
        · subst t3
          have b6 := below_new w4 (.cells #[.int .i64 (-2), .int .i64 3, .int .i64 6] 3)
          have hc := S4.out.c.below b6
          have o6 := own_lit [-2, 3, 6] (box_new w4 _ _) (by decide)
          have S6 := Lib.hid (S4.out.below b6)
          have lt6 : g < w4.heap.size := Nat.lt_of_lt_of_le hlt S4.out.ch.size
          change OwnI (w4.alloc (.cells #[.int .i64 (-2), .int .i64 3, .int .i64 6] 3)) _ _ _ _ _ _ at o6
          go_wp2_with fail
          generalize w4.alloc (.cells #[.int .i64 (-2), .int .i64 3, .int .i64 6] 3) = w6 at *
          refine (amongM_any g _ _ _ _ _ _ [-2, 3, 6] _ hc (by omega) o6 (by omega) (by decide) (by decide)).mono ?_
          rintro e w7 ⟨y, rfl, _, hc7, hg7⟩
          have S7 := Lib.hid (S6.out.chg hlt hc7 hg7)
          have S8 := Lib.hid (S7.out.put (i := 3) (x := .int .i64 y) hlt rfl)
          have g0 := bxc S7.out.bx 3 _ rfl
          have h0 := bxf S7.out.bx 3
          clear hc o6 S6 hc7 hg7 S7 S4 b6
          have R2 := Lib.hid (S8.out.quit hlt (x0 := .int .i64 lv) (x1 := .slice V (m) cv) (x2 := .slice U (n) cu) (x3 := .int .i64 y))
          have rr := S8.out.rx
          have bb := S8.out.bx
          have p0 := bxc rr 0 _ rfl
          have f0 := bxf rr 0
          have i0 := bxc bb 0 (.int .i64 lv) rfl
          have p1 := bxc rr 1 _ rfl
          have f1 := bxf rr 1
          have i1 := bxc bb 1 (.slice V (m) cv) rfl
          have p2 := bxc rr 2 _ rfl
          have f2 := bxf rr 2
          have i2 := bxc bb 2 (.slice U (n) cu) rfl
          have p3 := bxc rr 3 _ rfl
          have f3 := bxf rr 3
          have i3 := bxc bb 3 (.int .i64 y) rfl
          have tt := box_set (box_set (box_set (box_set rr 0 (.int .i64 lv)) 1 (.slice V (m) cv)) 2 (.slice U (n) cu)) 3 (.int .i64 y)
          have r0 := bxc tt 0 (.int .i64 lv) rfl
          have r1 := bxc tt 1 (.slice V (m) cv) rfl
          have r2 := bxc tt 2 (.slice U (n) cu) rfl
          have r3 := bxc tt 3 (.int .i64 y) rfl
          clear rr bb tt
          go_wp2
          exact bodyPost_ret (v := .agg #[.int .i64 lv, .slice V (m) cv, .slice U (n) cu, .int .i64 y]) (by simp [results, Tryz.results156, go_sem, r0, r1, r2, r3]) rfl ⟨lv, V, m, cv, xs, U, n, cu, us, y, rfl, by omega, by omega, OwnI.of_own R2.out.1 (by omega), OwnI.of_own R2.out.2.1 (by omega), R2.out.2.2.1.mono (by omega), R2.out.2.2.2⟩
        · have t3E : (v == 3) = false := by rw [beq_eq_false_iff_ne]; exact t3
          by_cases t4 : v = 4
          · subst t4
            have e4 : w4.cell? ⟨w2.heap.size, 2, none⟩ = some (.slice U n cu) := bxc S4.out.bx 2 _ rfl
            by_cases hn1 : ¬ 0 < n
            · skip
              have R6 := Lib.hid (S4.out.quit hlt (x0 := .int .i64 lv) (x1 := .slice V (m) cv) (x2 := .slice U (n) cu) (x3 := .int .i64 sm))
              have rr := S4.out.rx
              have bb := S4.out.bx
              have p0 := bxc rr 0 _ rfl
              have f0 := bxf rr 0
              have i0 := bxc bb 0 (.int .i64 lv) rfl
              have p1 := bxc rr 1 _ rfl
              have f1 := bxf rr 1
              have i1 := bxc bb 1 (.slice V (m) cv) rfl
              have p2 := bxc rr 2 _ rfl
              have f2 := bxf rr 2
              have i2 := bxc bb 2 (.slice U (n) cu) rfl
              have p3 := bxc rr 3 _ rfl
              have f3 := bxf rr 3
              have i3 := bxc bb 3 (.int .i64 sm) rfl
              have tt := box_set (box_set (box_set (box_set rr 0 (.int .i64 lv)) 1 (.slice V (m) cv)) 2 (.slice U (n) cu)) 3 (.int .i64 sm)
              have r0 := bxc tt 0 (.int .i64 lv) rfl
              have r1 := bxc tt 1 (.slice V (m) cv) rfl
              have r2 := bxc tt 2 (.slice U (n) cu) rfl
              have r3 := bxc tt 3 (.int .i64 sm) rfl
              clear rr bb tt
              go_wp2
              exact bodyPost_ret (v := .agg #[.int .i64 lv, .slice V (m) cv, .slice U (n) cu, .int .i64 sm]) (by simp [results, Tryz.results156, go_sem, r0, r1, r2, r3]) rfl ⟨lv, V, m, cv, xs, U, n, cu, us, sm, rfl, by omega, by omega, OwnI.of_own R6.out.1 (by omega), OwnI.of_own R6.out.2.1 (by omega), R6.out.2.2.1.mono (by omega), R6.out.2.2.2⟩
            · replace hn1 : 0 < n := by omega
              obtain ⟨gu, rfl, hgu, _⟩ := S4.out.u.head hn1
              have b6 := below_new w4 (.cells #[.int .i64 (-1), .int .i64 255, .int .i64 256] 3)
              have S6a := S4.out.below b6
              have hcd : Cur (w4.alloc (.cells #[.int .i64 (-1), .int .i64 255, .int .i64 256] 3)).drew g (L + 80 + 2) := S6a.c
              have S6 := Lib.hid (S6a.chg hlt hcd (Chg.of_below (Below.refl _ _).drew))
              have o6 : OwnI (w4.alloc (.cells #[.int .i64 (-1), .int .i64 255, .int .i64 256] 3)).drew w4.heap.size (w4.heap.size + 1) (some ⟨w4.heap.size, 0, none⟩) 3 3 [-1, 255, 256] := own_lit [-1, 255, 256] (box_new w4 _ _) (by decide)
              have lt6 : g < w4.heap.size := Nat.lt_of_lt_of_le hlt S4.out.ch.size
              have e6 : (w4.alloc (.cells #[.int .i64 (-1), .int .i64 255, .int .i64 256] 3)).cell? ⟨w2.heap.size, 2, none⟩ = some (.slice (some ⟨gu, 0, none⟩) n cu) := bxc S6a.bx 2 _ rfl
              have hpk := Lib.hid (amongM_any g _ _ _ _ _ _ [-1, 255, 256] _ hcd (by omega) o6 (by omega) (by decide) (by decide))
              clear S6a b6
              go_wp2_with fail
              go_region_law ((go_simp; go_at_call 86; refine hpk.out.mono ?_; rintro e w7 ⟨y, rfl, hym, hc7, hg7⟩; have S7 := Lib.hid (S6.out.chg hlt hc7 hg7); have q0 : w7.cell? ⟨w2.heap.size, 2, none⟩ = some (.slice (some ⟨gu, 0, none⟩) n cu) := bxc S7.out.bx 2 _ rfl; have q1 := (World.ownsRow.frozenAt S7.out.u 0); obtain ⟨gu', hu', _, _, q2, _⟩ := S7.out.u.at_ hn1; obtain rfl : gu' = gu := by injection hu' with hu'; injection hu' with hu'; exact hu'.symm))
              all_goals (clear e6 hpk o6 hcd)
              all_goals (have S9 := Lib.hid (S7.out.setU (i := 0) (y := y) hlt))
              all_goals (clear q0 q1 q2 hc7 hg7 e4 hym)
              all_goals (have R7 := Lib.hid (S9.out.quit hlt (x0 := .int .i64 lv) (x1 := .slice V (m) cv) (x2 := .slice (some ⟨gu', 0, none⟩) (n) cu) (x3 := .int .i64 sm)); have rr := S9.out.rx; have bb := S9.out.bx; have p0 := bxc rr 0 _ rfl; have f0 := bxf rr 0; have i0 := bxc bb 0 (.int .i64 lv) rfl; have p1 := bxc rr 1 _ rfl; have f1 := bxf rr 1; have i1 := bxc bb 1 (.slice V (m) cv) rfl; have p2 := bxc rr 2 _ rfl; have f2 := bxf rr 2; have i2 := bxc bb 2 (.slice (some ⟨gu', 0, none⟩) (n) cu) rfl; have p3 := bxc rr 3 _ rfl; have f3 := bxf rr 3; have i3 := bxc bb 3 (.int .i64 sm) rfl; have tt := box_set (box_set (box_set (box_set rr 0 (.int .i64 lv)) 1 (.slice V (m) cv)) 2 (.slice (some ⟨gu', 0, none⟩) (n) cu)) 3 (.int .i64 sm); have r0 := bxc tt 0 (.int .i64 lv) rfl; have r1 := bxc tt 1 (.slice V (m) cv) rfl; have r2 := bxc tt 2 (.slice (some ⟨gu', 0, none⟩) (n) cu) rfl; have r3 := bxc tt 3 (.int .i64 sm) rfl; clear rr bb tt)
              all_goals go_wp2
              all_goals exact bodyPost_ret (v := .agg #[.int .i64 lv, .slice V (m) cv, .slice (some ⟨gu', 0, none⟩) (n) cu, .int .i64 sm]) (by simp [results, Tryz.results156, go_sem, r0, r1, r2, r3]) rfl ⟨lv, V, m, cv, xs, (some ⟨gu', 0, none⟩), n, cu, _, sm, rfl, by omega, by omega, OwnI.of_own R7.out.1 (by omega), OwnI.of_own R7.out.2.1 (by omega), R7.out.2.2.1.mono (by omega), R7.out.2.2.2⟩
          · have t4E : (v == 4) = false := by rw [beq_eq_false_iff_ne]; exact t4
            have R3 := Lib.hid (S4.out.quit hlt (x0 := .int .i64 lv) (x1 := .slice V (m) cv) (x2 := .slice U (n) cu) (x3 := .int .i64 sm))
            have rr := S4.out.rx
            have bb := S4.out.bx
            have p0 := bxc rr 0 _ rfl
            have f0 := bxf rr 0
            have i0 := bxc bb 0 (.int .i64 lv) rfl
            have p1 := bxc rr 1 _ rfl
            have f1 := bxf rr 1
            have i1 := bxc bb 1 (.slice V (m) cv) rfl
            have p2 := bxc rr 2 _ rfl
            have f2 := bxf rr 2
            have i2 := bxc bb 2 (.slice U (n) cu) rfl
            have p3 := bxc rr 3 _ rfl
            have f3 := bxf rr 3
            have i3 := bxc bb 3 (.int .i64 sm) rfl
            have tt := box_set (box_set (box_set (box_set rr 0 (.int .i64 lv)) 1 (.slice V (m) cv)) 2 (.slice U (n) cu)) 3 (.int .i64 sm)
            have r0 := bxc tt 0 (.int .i64 lv) rfl
            have r1 := bxc tt 1 (.slice V (m) cv) rfl
            have r2 := bxc tt 2 (.slice U (n) cu) rfl
            have r3 := bxc tt 3 (.int .i64 sm) rfl
            clear rr bb tt
            go_wp2
            exact bodyPost_ret (v := .agg #[.int .i64 lv, .slice V (m) cv, .slice U (n) cu, .int .i64 sm]) (by simp [results, Tryz.results156, go_sem, r0, r1, r2, r3]) rfl ⟨lv, V, m, cv, xs, U, n, cu, us, sm, rfl, by omega, by omega, OwnI.of_own R3.out.1 (by omega), OwnI.of_own R3.out.2.1 (by omega), R3.out.2.2.1.mono (by omega), R3.out.2.2.2⟩
end
end Go.Proofs.YtfanpbfmnckmnaaGreat
