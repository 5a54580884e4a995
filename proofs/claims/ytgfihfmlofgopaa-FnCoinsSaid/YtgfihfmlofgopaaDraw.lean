/- Drawn streams and fractions. -/
import Derived.Test.YtgfihfmlofgopaaDrawB
import Derived.Test.YtgfihfmlofgopaaFop
namespace Go.Proofs.Ytgfihfmlofgopaa
open Go.RowKit

set_option maxRecDepth 100000 in
set_option maxHeartbeats 2000000 in
theorem stream_any (g L : Nat) (w : World) (h : Cur w g L) (hL : L ≤ 798000) :
    Calls Try.prog 60 #[.pointer (some ⟨g, 0, none⟩)] w (DTwo g (L + 8) w) := by
  have hlt := h.lt
  have hc0 := h
  have hG0 := Chg.refl g (g + 1) w
  clear h
  go_enter Try.func60, Try.ntmps60
  go_wp2_with fail
  have xr := box_new w #[.int .i64 0, .int .i64 0] 25
  have hc1 := hc0.below (below_new w (.cells #[.int .i64 0, .int .i64 0] 25))
  have hG1 := hG0.alloc (.cells #[.int .i64 0, .int .i64 0] 25)
  have z1 : w.heap.size + 1 ≤ (w.alloc (.cells #[.int .i64 0, .int .i64 0] 25)).heap.size := by simp
  clear hc0 hG0
  generalize w.alloc (.cells #[.int .i64 0, .int .i64 0] 25) = u1 at *
  refine (seed0_any g _ _ hc1 (by omega)).mono ?_
  rintro e w2 ⟨v2, rfl, v2l, v2u, hc2, hg2⟩
  replace xr := box_chg xr hg2 (by omega)
  have hG2 := hG1.trans hg2
  have z2 := hg2.size
  clear hc1 hG1 hg2
  go_wp2_with fail
  have xs := box_new w2 #[.int .i64 v2, .int .i64 0] 25
  replace xr := box_below xr (below_new w2 (.cells #[.int .i64 v2, .int .i64 0] 25))
  have hc3 := hc2.below (below_new w2 (.cells #[.int .i64 v2, .int .i64 0] 25))
  have hG3 := hG2.alloc (.cells #[.int .i64 v2, .int .i64 0] 25)
  have z3 : w2.heap.size + 1 ≤ (w2.alloc (.cells #[.int .i64 v2, .int .i64 0] 25)).heap.size := by simp
  clear hc2 hG2
  generalize w2.alloc (.cells #[.int .i64 v2, .int .i64 0] 25) = u3 at *
  refine (one_any g _ _ _ hc3 (by omega) (by omega)).mono ?_
  rintro e w4 ⟨b4, rfl, hc4, hg4⟩
  replace xr := box_chg xr hg4 (by omega)
  replace xs := box_chg xs hg4 (by omega)
  have hG4 := hG3.trans hg4
  have z4 := hg4.size
  clear hc3 hG3 hg4
  cases b4
  · have cr0 := box_cell xr 0 _ rfl
    have fr0 := box_free xr 0
    have cr1 := box_cell xr 1 _ rfl
    have fr1 := box_free xr 1
    have lr := lt_of_block xr
    have cs0 := box_cell xs 0 _ rfl
    have fs0 := box_free xs 0
    have cs1 := box_cell xs 1 _ rfl
    have fs1 := box_free xs 1
    have ls := lt_of_block xs
    have y4 := store_two xr (.int .i64 v2) (.int .i64 0)
    have e0 := box_cell y4 0 _ rfl
    have e1 := box_cell y4 1 _ rfl
    go_wp2
    refine bodyPost_ret (v := .agg #[.int .i64 v2, .int .i64 0]) (by simp [results, Try.results60, go_sem, e0, e1]) rfl ⟨v2, 0, rfl, ((hc4.far (p := ⟨w.heap.size, 0, none⟩) (by show g < w.heap.size; omega) (.int .i64 v2)).far (p := ⟨w.heap.size, 1, none⟩) (by show g < w.heap.size; omega) (.int .i64 0)).mono (by omega), ((hG4.setNewD (p := ⟨w.heap.size, 0, none⟩) (by show w.heap.size ≤ w.heap.size; omega) (.int .i64 v2)).setNewD (p := ⟨w.heap.size, 1, none⟩) (by show w.heap.size ≤ w.heap.size; omega) (.int .i64 0))⟩
  · go_wp2_with fail
    refine (pick_any g _ _ _ hc4 (by omega) (by omega)).mono ?_
    rintro e w5 ⟨v5, rfl, v5l, v5u, hc5, hg5⟩
    replace xr := box_chg xr hg5 (by omega)
    replace xs := box_chg xs hg5 (by omega)
    have hG5 := hG4.trans hg5
    have z5 := hg5.size
    clear hc4 hG4 hg5
    replace v5u : v5 ≤ 499 := by simpa using v5u
    have cr0 := box_cell xr 0 _ rfl
    have fr0 := box_free xr 0
    have cr1 := box_cell xr 1 _ rfl
    have fr1 := box_free xr 1
    have lr := lt_of_block xr
    have cs0 := box_cell xs 0 _ rfl
    have fs0 := box_free xs 0
    have cs1 := box_cell xs 1 _ rfl
    have fs1 := box_free xs 1
    have ls := lt_of_block xs
    have y4 := store_two (box_off xr (p := ⟨w2.heap.size, 1, none⟩) (by show w.heap.size ≠ w2.heap.size; omega) (.int .i64 v5)) (.int .i64 v2) (.int .i64 v5)
    have e0 := box_cell y4 0 _ rfl
    have e1 := box_cell y4 1 _ rfl
    go_wp2
    refine bodyPost_ret (v := .agg #[.int .i64 v2, .int .i64 v5]) (by simp [results, Try.results60, go_sem, e0, e1]) rfl ⟨v2, v5, rfl, (((hc5.far (p := ⟨w2.heap.size, 1, none⟩) (by show g < w2.heap.size; omega) (.int .i64 v5)).far (p := ⟨w.heap.size, 0, none⟩) (by show g < w.heap.size; omega) (.int .i64 v2)).far (p := ⟨w.heap.size, 1, none⟩) (by show g < w.heap.size; omega) (.int .i64 v5)).mono (by omega), (((hG5.setNewD (p := ⟨w2.heap.size, 1, none⟩) (by show w.heap.size ≤ w2.heap.size; omega) (.int .i64 v5)).setNewD (p := ⟨w.heap.size, 0, none⟩) (by show w.heap.size ≤ w.heap.size; omega) (.int .i64 v2)).setNewD (p := ⟨w.heap.size, 1, none⟩) (by show w.heap.size ≤ w.heap.size; omega) (.int .i64 v5))⟩

set_option maxRecDepth 100000 in
set_option maxHeartbeats 2000000 in
theorem anyStream_any (g L : Nat) (w : World) (h : Cur w g L) (hL : L ≤ 797000) :
    Calls Try.prog 23 #[.pointer (some ⟨g, 0, none⟩)] w (DTwo g (L + 16) w) := by
  have hlt := h.lt
  have hc0 := h
  have hG0 := Chg.refl g (g + 1) w
  clear h
  go_enter Try.func23, Try.ntmps23
  go_wp2_with fail
  have xr := box_new w #[.int .i64 0, .int .i64 0] 25
  have hc1 := hc0.below (below_new w (.cells #[.int .i64 0, .int .i64 0] 25))
  have hG1 := hG0.alloc (.cells #[.int .i64 0, .int .i64 0] 25)
  have z1 : w.heap.size + 1 ≤ (w.alloc (.cells #[.int .i64 0, .int .i64 0] 25)).heap.size := by simp
  clear hc0 hG0
  generalize w.alloc (.cells #[.int .i64 0, .int .i64 0] 25) = u1 at *
  refine (stream_any g _ _ hc1 (by omega)).mono ?_
  rintro e w2 ⟨p2, q2, rfl, hc2, hg2⟩
  replace xr := box_chg xr hg2 (by omega)
  have hG2 := hG1.trans hg2
  have z2 := hg2.size
  clear hc1 hG1 hg2
  go_wp2_with fail
  have xs := box_new w2 #[.int .i64 p2, .int .i64 q2] 25
  replace xr := box_below xr (below_new w2 (.cells #[.int .i64 p2, .int .i64 q2] 25))
  have hc3 := hc2.below (below_new w2 (.cells #[.int .i64 p2, .int .i64 q2] 25))
  have hG3 := hG2.alloc (.cells #[.int .i64 p2, .int .i64 q2] 25)
  have z3 : w2.heap.size + 1 ≤ (w2.alloc (.cells #[.int .i64 p2, .int .i64 q2] 25)).heap.size := by simp
  clear hc2 hG2
  generalize w2.alloc (.cells #[.int .i64 p2, .int .i64 q2] 25) = u3 at *
  refine (pick_any g _ _ _ hc3 (by omega) (by omega)).mono ?_
  rintro e w4 ⟨v4, rfl, v4l, v4u, hc4, hg4⟩
  replace xr := box_chg xr hg4 (by omega)
  replace xs := box_chg xs hg4 (by omega)
  have hG4 := hG3.trans hg4
  have z4 := hg4.size
  clear hc3 hG3 hg4
  replace v4u : v4 ≤ 23 := by simpa using v4u
  by_cases tv40 : v4 = 0
  · subst tv40
    go_wp2_with fail
    refine (anySeed_any g _ _ hc4 (by omega)).mono ?_
    rintro e w5 ⟨v5, rfl, v5l, v5u, hc5, hg5⟩
    replace xr := box_chg xr hg5 (by omega)
    replace xs := box_chg xs hg5 (by omega)
    have hG5 := hG4.trans hg5
    have z5 := hg5.size
    clear hc4 hG4 hg5
    have cr0 := box_cell xr 0 _ rfl
    have fr0 := box_free xr 0
    have cr1 := box_cell xr 1 _ rfl
    have fr1 := box_free xr 1
    have lr := lt_of_block xr
    have cs0 := box_cell xs 0 _ rfl
    have fs0 := box_free xs 0
    have cs1 := box_cell xs 1 _ rfl
    have fs1 := box_free xs 1
    have ls := lt_of_block xs
    have y4 := store_two (box_off xr (p := ⟨w2.heap.size, 0, none⟩) (by show w.heap.size ≠ w2.heap.size; omega) (.int .i64 v5)) (.int .i64 v5) (.int .i64 q2)
    have e0 := box_cell y4 0 _ rfl
    have e1 := box_cell y4 1 _ rfl
    go_wp2
    refine bodyPost_ret (v := .agg #[.int .i64 v5, .int .i64 q2]) (by simp [results, Try.results23, go_sem, e0, e1]) rfl ⟨v5, q2, rfl, (((hc5.far (p := ⟨w2.heap.size, 0, none⟩) (by show g < w2.heap.size; omega) (.int .i64 v5)).far (p := ⟨w.heap.size, 0, none⟩) (by show g < w.heap.size; omega) (.int .i64 v5)).far (p := ⟨w.heap.size, 1, none⟩) (by show g < w.heap.size; omega) (.int .i64 q2)).mono (by omega), (((hG5.setNewD (p := ⟨w2.heap.size, 0, none⟩) (by show w.heap.size ≤ w2.heap.size; omega) (.int .i64 v5)).setNewD (p := ⟨w.heap.size, 0, none⟩) (by show w.heap.size ≤ w.heap.size; omega) (.int .i64 v5)).setNewD (p := ⟨w.heap.size, 1, none⟩) (by show w.heap.size ≤ w.heap.size; omega) (.int .i64 q2))⟩
  · have tv40E : (v4 == 0) = false := by rw [beq_eq_false_iff_ne]; exact tv40
    by_cases tv41 : v4 = 1
    · subst tv41
      go_wp2_with fail
      have xlit6 := box_new w4 #[.int .i64 (-1), .int .i64 1000000, .int .i64 1000001, .int .i64 999997] 3
      replace xr := box_below xr (below_new w4 (.cells #[.int .i64 (-1), .int .i64 1000000, .int .i64 1000001, .int .i64 999997] 3))
      replace xs := box_below xs (below_new w4 (.cells #[.int .i64 (-1), .int .i64 1000000, .int .i64 1000001, .int .i64 999997] 3))
      have hc6 := hc4.below (below_new w4 (.cells #[.int .i64 (-1), .int .i64 1000000, .int .i64 1000001, .int .i64 999997] 3))
      have hG6 := hG4.alloc (.cells #[.int .i64 (-1), .int .i64 1000000, .int .i64 1000001, .int .i64 999997] 3)
      have z6 : w4.heap.size + 1 ≤ (w4.alloc (.cells #[.int .i64 (-1), .int .i64 1000000, .int .i64 1000001, .int .i64 999997] 3)).heap.size := by simp
      clear hc4 hG4
      generalize w4.alloc (.cells #[.int .i64 (-1), .int .i64 1000000, .int .i64 1000001, .int .i64 999997] 3) = u6 at *
      have olit6 := own_lit [-1, 1000000, 1000001, 999997] xlit6 (by decide)
      clear xlit6
      refine (among_any g _ _ _ _ _ _ (-1) (1000001) [-1, 1000000, 1000001, 999997] _ hc6 (by omega) olit6 (by omega) (by decide) (by decide) (by decide)).mono ?_
      rintro e w7 ⟨v7, rfl, v7l, v7u, hc7, hg7⟩
      replace xr := box_chg xr hg7 (by omega)
      replace xs := box_chg xs hg7 (by omega)
      have hG7 := hG6.trans hg7
      have z7 := hg7.size
      clear hc6 hG6 hg7
      clear olit6
      have cr0 := box_cell xr 0 _ rfl
      have fr0 := box_free xr 0
      have cr1 := box_cell xr 1 _ rfl
      have fr1 := box_free xr 1
      have lr := lt_of_block xr
      have cs0 := box_cell xs 0 _ rfl
      have fs0 := box_free xs 0
      have cs1 := box_cell xs 1 _ rfl
      have fs1 := box_free xs 1
      have ls := lt_of_block xs
      have y4 := store_two (box_off xr (p := ⟨w2.heap.size, 1, none⟩) (by show w.heap.size ≠ w2.heap.size; omega) (.int .i64 v7)) (.int .i64 p2) (.int .i64 v7)
      have e0 := box_cell y4 0 _ rfl
      have e1 := box_cell y4 1 _ rfl
      go_wp2
      refine bodyPost_ret (v := .agg #[.int .i64 p2, .int .i64 v7]) (by simp [results, Try.results23, go_sem, e0, e1]) rfl ⟨p2, v7, rfl, (((hc7.far (p := ⟨w2.heap.size, 1, none⟩) (by show g < w2.heap.size; omega) (.int .i64 v7)).far (p := ⟨w.heap.size, 0, none⟩) (by show g < w.heap.size; omega) (.int .i64 p2)).far (p := ⟨w.heap.size, 1, none⟩) (by show g < w.heap.size; omega) (.int .i64 v7)).mono (by omega), (((hG7.setNewD (p := ⟨w2.heap.size, 1, none⟩) (by show w.heap.size ≤ w2.heap.size; omega) (.int .i64 v7)).setNewD (p := ⟨w.heap.size, 0, none⟩) (by show w.heap.size ≤ w.heap.size; omega) (.int .i64 p2)).setNewD (p := ⟨w.heap.size, 1, none⟩) (by show w.heap.size ≤ w.heap.size; omega) (.int .i64 v7))⟩
    · have tv41E : (v4 == 1) = false := by rw [beq_eq_false_iff_ne]; exact tv41
      have cr0 := box_cell xr 0 _ rfl
      have fr0 := box_free xr 0
      have cr1 := box_cell xr 1 _ rfl
      have fr1 := box_free xr 1
      have lr := lt_of_block xr
      have cs0 := box_cell xs 0 _ rfl
      have fs0 := box_free xs 0
      have cs1 := box_cell xs 1 _ rfl
      have fs1 := box_free xs 1
      have ls := lt_of_block xs
      have y4 := store_two xr (.int .i64 p2) (.int .i64 q2)
      have e0 := box_cell y4 0 _ rfl
      have e1 := box_cell y4 1 _ rfl
      go_wp2
      refine bodyPost_ret (v := .agg #[.int .i64 p2, .int .i64 q2]) (by simp [results, Try.results23, go_sem, e0, e1]) rfl ⟨p2, q2, rfl, ((hc4.far (p := ⟨w.heap.size, 0, none⟩) (by show g < w.heap.size; omega) (.int .i64 p2)).far (p := ⟨w.heap.size, 1, none⟩) (by show g < w.heap.size; omega) (.int .i64 q2)).mono (by omega), ((hG4.setNewD (p := ⟨w.heap.size, 0, none⟩) (by show w.heap.size ≤ w.heap.size; omega) (.int .i64 p2)).setNewD (p := ⟨w.heap.size, 1, none⟩) (by show w.heap.size ≤ w.heap.size; omega) (.int .i64 q2))⟩

set_option maxRecDepth 100000 in
set_option maxHeartbeats 2000000 in
theorem frac_any (g L : Nat) (w : World) (h : Cur w g L) (hL : L ≤ 796000) :
    Calls Try.prog 70 #[.pointer (some ⟨g, 0, none⟩)] w (DTwo g (L + 4) w) := by
  have hlt := h.lt
  have hc0 := h
  have hG0 := Chg.refl g (g + 1) w
  clear h
  go_enter Try.func70, Try.ntmps70
  go_wp2_with fail
  have xr := box_new w #[.int .i64 0, .int .i64 0] 27
  have hc1 := hc0.below (below_new w (.cells #[.int .i64 0, .int .i64 0] 27))
  have hG1 := hG0.alloc (.cells #[.int .i64 0, .int .i64 0] 27)
  have z1 : w.heap.size + 1 ≤ (w.alloc (.cells #[.int .i64 0, .int .i64 0] 27)).heap.size := by simp
  clear hc0 hG0
  generalize w.alloc (.cells #[.int .i64 0, .int .i64 0] 27) = u1 at *
  refine (pick_any g _ _ _ hc1 (by omega) (by omega)).mono ?_
  rintro e w2 ⟨v2, rfl, v2l, v2u, hc2, hg2⟩
  replace xr := box_chg xr hg2 (by omega)
  have hG2 := hG1.trans hg2
  have z2 := hg2.size
  clear hc1 hG1 hg2
  replace v2u : v2 ≤ 40 := by simpa using v2u
  go_wp2_with fail
  refine (pick_any g _ _ _ hc2 (by omega) (by omega)).mono ?_
  rintro e w3 ⟨v3, rfl, v3l, v3u, hc3, hg3⟩
  replace xr := box_chg xr hg3 (by omega)
  have hG3 := hG2.trans hg3
  have z3 := hg3.size
  clear hc2 hG2 hg3
  replace v3u : v3 ≤ 11 := by simpa using v3u
  go_wp2_with fail
  refine (fMake_any _ _ _ (by omega) (by omega) (by omega) (by omega)).mono ?_
  rintro e w4 ⟨rfl, hb4⟩
  replace xr := box_below xr hb4
  have hc4 := hc3.below hb4
  have hG4 := hG3.then_ hb4
  have z4 := hb4.size
  clear hc3 hG3 hb4
  obtain ⟨f4, hf4⟩ : ∃ x, fN (redO (v2 - 20) (1 + v3)) = x := ⟨_, rfl⟩
  obtain ⟨d4, hd4⟩ : ∃ x, fD (redO (v2 - 20) (1 + v3)) = x := ⟨_, rfl⟩
  obtain ⟨b4, hb4⟩ : ∃ x, fB (redO (v2 - 20) (1 + v3)) = x := ⟨_, rfl⟩
  rw [hf4, hd4, hb4]
  clear hf4 hd4 hb4
  have cr0 := box_cell xr 0 _ rfl
  have fr0 := box_free xr 0
  have cr1 := box_cell xr 1 _ rfl
  have fr1 := box_free xr 1
  have lr := lt_of_block xr
  have y4 := store_two xr (.int .i64 f4) (.int .i64 d4)
  replace y4 := box_below y4 (below_new _ (.cells #[.int .i64 f4, .int .i64 d4] 27))
  have e0 := box_cell y4 0 _ rfl
  have e1 := box_cell y4 1 _ rfl
  go_wp2
  refine bodyPost_ret (v := .agg #[.int .i64 f4, .int .i64 d4]) (by simp [results, Try.results70, go_sem, e0, e1]) rfl ⟨f4, d4, rfl, (((hc4.far (p := ⟨w.heap.size, 0, none⟩) (by show g < w.heap.size; omega) (.int .i64 f4)).far (p := ⟨w.heap.size, 1, none⟩) (by show g < w.heap.size; omega) (.int .i64 d4)).below (below_new _ (.cells #[.int .i64 f4, .int .i64 d4] 27))).mono (by omega), (((hG4.setNewD (p := ⟨w.heap.size, 0, none⟩) (by show w.heap.size ≤ w.heap.size; omega) (.int .i64 f4)).setNewD (p := ⟨w.heap.size, 1, none⟩) (by show w.heap.size ≤ w.heap.size; omega) (.int .i64 d4)).alloc (.cells #[.int .i64 f4, .int .i64 d4] 27))⟩

set_option maxRecDepth 100000 in
set_option maxHeartbeats 2000000 in
theorem anyFrac_any (g L : Nat) (w : World) (h : Cur w g L) (hL : L ≤ 795000) :
    Calls Try.prog 36 #[.pointer (some ⟨g, 0, none⟩)] w (DTwo g (L + 6) w) := by
  have hlt := h.lt
  have hc0 := h
  have hG0 := Chg.refl g (g + 1) w
  clear h
  go_enter Try.func36, Try.ntmps36
  go_wp2_with fail
  have xr := box_new w #[.int .i64 0, .int .i64 0] 27
  have hc1 := hc0.below (below_new w (.cells #[.int .i64 0, .int .i64 0] 27))
  have hG1 := hG0.alloc (.cells #[.int .i64 0, .int .i64 0] 27)
  have z1 : w.heap.size + 1 ≤ (w.alloc (.cells #[.int .i64 0, .int .i64 0] 27)).heap.size := by simp
  clear hc0 hG0
  generalize w.alloc (.cells #[.int .i64 0, .int .i64 0] 27) = u1 at *
  refine (pick_any g _ _ _ hc1 (by omega) (by omega)).mono ?_
  rintro e w2 ⟨v2, rfl, v2l, v2u, hc2, hg2⟩
  replace xr := box_chg xr hg2 (by omega)
  have hG2 := hG1.trans hg2
  have z2 := hg2.size
  clear hc1 hG1 hg2
  replace v2u : v2 ≤ 15 := by simpa using v2u
  by_cases tv20 : v2 = 0
  · subst tv20
    go_wp2_with fail
    have xlit3 := box_new w2 #[.int .i64 1000000000, .int .i64 (-1000000000), .int .i64 999999999, .int .i64 1000000001] 3
    replace xr := box_below xr (below_new w2 (.cells #[.int .i64 1000000000, .int .i64 (-1000000000), .int .i64 999999999, .int .i64 1000000001] 3))
    have hc3 := hc2.below (below_new w2 (.cells #[.int .i64 1000000000, .int .i64 (-1000000000), .int .i64 999999999, .int .i64 1000000001] 3))
    have hG3 := hG2.alloc (.cells #[.int .i64 1000000000, .int .i64 (-1000000000), .int .i64 999999999, .int .i64 1000000001] 3)
    have z3 : w2.heap.size + 1 ≤ (w2.alloc (.cells #[.int .i64 1000000000, .int .i64 (-1000000000), .int .i64 999999999, .int .i64 1000000001] 3)).heap.size := by simp
    clear hc2 hG2
    generalize w2.alloc (.cells #[.int .i64 1000000000, .int .i64 (-1000000000), .int .i64 999999999, .int .i64 1000000001] 3) = u3 at *
    have olit3 := own_lit [1000000000, -1000000000, 999999999, 1000000001] xlit3 (by decide)
    clear xlit3
    refine (among_any g _ _ _ _ _ _ (-1000000000) (1000000001) [1000000000, -1000000000, 999999999, 1000000001] _ hc3 (by omega) olit3 (by omega) (by decide) (by decide) (by decide)).mono ?_
    rintro e w4 ⟨v4, rfl, v4l, v4u, hc4, hg4⟩
    replace xr := box_chg xr hg4 (by omega)
    have hG4 := hG3.trans hg4
    have z4 := hg4.size
    clear hc3 hG3 hg4
    clear olit3
    go_wp2_with fail
    have xlit5 := box_new w4 #[.int .i64 1, .int .i64 7, .int .i64 999999999, .int .i64 999999937] 3
    replace xr := box_below xr (below_new w4 (.cells #[.int .i64 1, .int .i64 7, .int .i64 999999999, .int .i64 999999937] 3))
    have hc5 := hc4.below (below_new w4 (.cells #[.int .i64 1, .int .i64 7, .int .i64 999999999, .int .i64 999999937] 3))
    have hG5 := hG4.alloc (.cells #[.int .i64 1, .int .i64 7, .int .i64 999999999, .int .i64 999999937] 3)
    have z5 : w4.heap.size + 1 ≤ (w4.alloc (.cells #[.int .i64 1, .int .i64 7, .int .i64 999999999, .int .i64 999999937] 3)).heap.size := by simp
    clear hc4 hG4
    generalize w4.alloc (.cells #[.int .i64 1, .int .i64 7, .int .i64 999999999, .int .i64 999999937] 3) = u5 at *
    have olit5 := own_lit [1, 7, 999999999, 999999937] xlit5 (by decide)
    clear xlit5
    refine (among_any g _ _ _ _ _ _ (1) (999999999) [1, 7, 999999999, 999999937] _ hc5 (by omega) olit5 (by omega) (by decide) (by decide) (by decide)).mono ?_
    rintro e w6 ⟨v6, rfl, v6l, v6u, hc6, hg6⟩
    replace xr := box_chg xr hg6 (by omega)
    have hG6 := hG5.trans hg6
    have z6 := hg6.size
    clear hc5 hG5 hg6
    clear olit5
    have cr0 := box_cell xr 0 _ rfl
    have fr0 := box_free xr 0
    have cr1 := box_cell xr 1 _ rfl
    have fr1 := box_free xr 1
    have lr := lt_of_block xr
    have y4 := store_two xr (.int .i64 v4) (.int .i64 v6)
    have e0 := box_cell y4 0 _ rfl
    have e1 := box_cell y4 1 _ rfl
    go_wp2
    refine bodyPost_ret (v := .agg #[.int .i64 v4, .int .i64 v6]) (by simp [results, Try.results36, go_sem, e0, e1]) rfl ⟨v4, v6, rfl, ((hc6.far (p := ⟨w.heap.size, 0, none⟩) (by show g < w.heap.size; omega) (.int .i64 v4)).far (p := ⟨w.heap.size, 1, none⟩) (by show g < w.heap.size; omega) (.int .i64 v6)).mono (by omega), ((hG6.setNewD (p := ⟨w.heap.size, 0, none⟩) (by show w.heap.size ≤ w.heap.size; omega) (.int .i64 v4)).setNewD (p := ⟨w.heap.size, 1, none⟩) (by show w.heap.size ≤ w.heap.size; omega) (.int .i64 v6))⟩
  · have tv20E : (v2 == 0) = false := by rw [beq_eq_false_iff_ne]; exact tv20
    by_cases tv21 : v2 = 1
    · subst tv21
      go_wp2_with fail
      refine (pick_any g _ _ _ hc2 (by omega) (by omega)).mono ?_
      rintro e w7 ⟨v7, rfl, v7l, v7u, hc7, hg7⟩
      replace xr := box_chg xr hg7 (by omega)
      have hG7 := hG2.trans hg7
      have z7 := hg7.size
      clear hc2 hG2 hg7
      replace v7u : v7 ≤ 8 := by simpa using v7u
      go_wp2_with fail
      refine (pick_any g _ _ _ hc7 (by omega) (by omega)).mono ?_
      rintro e w8 ⟨v8, rfl, v8l, v8u, hc8, hg8⟩
      replace xr := box_chg xr hg8 (by omega)
      have hG8 := hG7.trans hg8
      have z8 := hg8.size
      clear hc7 hG7 hg8
      replace v8u : v8 ≤ 6 := by simpa using v8u
      have cr0 := box_cell xr 0 _ rfl
      have fr0 := box_free xr 0
      have cr1 := box_cell xr 1 _ rfl
      have fr1 := box_free xr 1
      have lr := lt_of_block xr
      have y4 := store_two xr (.int .i64 (v7 - 4)) (.int .i64 (v8 - 1))
      have e0 := box_cell y4 0 _ rfl
      have e1 := box_cell y4 1 _ rfl
      go_wp2
      refine bodyPost_ret (v := .agg #[.int .i64 (v7 - 4), .int .i64 (v8 - 1)]) (by simp [results, Try.results36, go_sem, e0, e1]) rfl ⟨(v7 - 4), (v8 - 1), rfl, ((hc8.far (p := ⟨w.heap.size, 0, none⟩) (by show g < w.heap.size; omega) (.int .i64 (v7 - 4))).far (p := ⟨w.heap.size, 1, none⟩) (by show g < w.heap.size; omega) (.int .i64 (v8 - 1))).mono (by omega), ((hG8.setNewD (p := ⟨w.heap.size, 0, none⟩) (by show w.heap.size ≤ w.heap.size; omega) (.int .i64 (v7 - 4))).setNewD (p := ⟨w.heap.size, 1, none⟩) (by show w.heap.size ≤ w.heap.size; omega) (.int .i64 (v8 - 1)))⟩
    · have tv21E : (v2 == 1) = false := by rw [beq_eq_false_iff_ne]; exact tv21
      by_cases tv22 : v2 = 2
      · subst tv22
        go_wp2_with fail
        refine (pick_any g _ _ _ hc2 (by omega) (by omega)).mono ?_
        rintro e w9 ⟨v9, rfl, v9l, v9u, hc9, hg9⟩
        replace xr := box_chg xr hg9 (by omega)
        have hG9 := hG2.trans hg9
        have z9 := hg9.size
        clear hc2 hG2 hg9
        replace v9u : v9 ≤ 2 := by simpa using v9u
        go_wp2_with fail
        have xlit10 := box_new w9 #[.int .i64 1000000000, .int .i64 1000000001, .int .i64 999999937] 3
        replace xr := box_below xr (below_new w9 (.cells #[.int .i64 1000000000, .int .i64 1000000001, .int .i64 999999937] 3))
        have hc10 := hc9.below (below_new w9 (.cells #[.int .i64 1000000000, .int .i64 1000000001, .int .i64 999999937] 3))
        have hG10 := hG9.alloc (.cells #[.int .i64 1000000000, .int .i64 1000000001, .int .i64 999999937] 3)
        have z10 : w9.heap.size + 1 ≤ (w9.alloc (.cells #[.int .i64 1000000000, .int .i64 1000000001, .int .i64 999999937] 3)).heap.size := by simp
        clear hc9 hG9
        generalize w9.alloc (.cells #[.int .i64 1000000000, .int .i64 1000000001, .int .i64 999999937] 3) = u10 at *
        have olit10 := own_lit [1000000000, 1000000001, 999999937] xlit10 (by decide)
        clear xlit10
        refine (among_any g _ _ _ _ _ _ (999999937) (1000000001) [1000000000, 1000000001, 999999937] _ hc10 (by omega) olit10 (by omega) (by decide) (by decide) (by decide)).mono ?_
        rintro e w11 ⟨v11, rfl, v11l, v11u, hc11, hg11⟩
        replace xr := box_chg xr hg11 (by omega)
        have hG11 := hG10.trans hg11
        have z11 := hg11.size
        clear hc10 hG10 hg11
        clear olit10
        have cr0 := box_cell xr 0 _ rfl
        have fr0 := box_free xr 0
        have cr1 := box_cell xr 1 _ rfl
        have fr1 := box_free xr 1
        have lr := lt_of_block xr
        have y4 := store_two xr (.int .i64 v9) (.int .i64 v11)
        have e0 := box_cell y4 0 _ rfl
        have e1 := box_cell y4 1 _ rfl
        go_wp2
        refine bodyPost_ret (v := .agg #[.int .i64 v9, .int .i64 v11]) (by simp [results, Try.results36, go_sem, e0, e1]) rfl ⟨v9, v11, rfl, ((hc11.far (p := ⟨w.heap.size, 0, none⟩) (by show g < w.heap.size; omega) (.int .i64 v9)).far (p := ⟨w.heap.size, 1, none⟩) (by show g < w.heap.size; omega) (.int .i64 v11)).mono (by omega), ((hG11.setNewD (p := ⟨w.heap.size, 0, none⟩) (by show w.heap.size ≤ w.heap.size; omega) (.int .i64 v9)).setNewD (p := ⟨w.heap.size, 1, none⟩) (by show w.heap.size ≤ w.heap.size; omega) (.int .i64 v11))⟩
      · have tv22E : (v2 == 2) = false := by rw [beq_eq_false_iff_ne]; exact tv22
        go_wp2_with fail
        refine (frac_any g _ _ hc2 (by omega)).mono ?_
        rintro e w12 ⟨p12, q12, rfl, hc12, hg12⟩
        replace xr := box_chg xr hg12 (by omega)
        have hG12 := hG2.trans hg12
        have z12 := hg12.size
        clear hc2 hG2 hg12
        have cr0 := box_cell xr 0 _ rfl
        have fr0 := box_free xr 0
        have cr1 := box_cell xr 1 _ rfl
        have fr1 := box_free xr 1
        have lr := lt_of_block xr
        have y4 := store_two xr (.int .i64 p12) (.int .i64 q12)
        have e0 := box_cell y4 0 _ rfl
        have e1 := box_cell y4 1 _ rfl
        go_wp2
        refine bodyPost_ret (v := .agg #[.int .i64 p12, .int .i64 q12]) (by simp [results, Try.results36, go_sem, e0, e1]) rfl ⟨p12, q12, rfl, ((hc12.far (p := ⟨w.heap.size, 0, none⟩) (by show g < w.heap.size; omega) (.int .i64 p12)).far (p := ⟨w.heap.size, 1, none⟩) (by show g < w.heap.size; omega) (.int .i64 q12)).mono (by omega), ((hG12.setNewD (p := ⟨w.heap.size, 0, none⟩) (by show w.heap.size ≤ w.heap.size; omega) (.int .i64 p12)).setNewD (p := ⟨w.heap.size, 1, none⟩) (by show w.heap.size ≤ w.heap.size; omega) (.int .i64 q12))⟩

set_option maxRecDepth 100000 in
set_option maxHeartbeats 2000000 in
theorem chance_any (g L : Nat) (w : World) (h : Cur w g L) (hL : L ≤ 792000) :
    Calls Try.prog 62 #[.pointer (some ⟨g, 0, none⟩)] w (DTwo g (L + 4) w) := by
  have hlt := h.lt
  have hc0 := h
  have hG0 := Chg.refl g (g + 1) w
  clear h
  go_enter Try.func62, Try.ntmps62
  go_wp2_with fail
  have xr := box_new w #[.int .i64 0, .int .i64 0] 27
  have hc1 := hc0.below (below_new w (.cells #[.int .i64 0, .int .i64 0] 27))
  have hG1 := hG0.alloc (.cells #[.int .i64 0, .int .i64 0] 27)
  have z1 : w.heap.size + 1 ≤ (w.alloc (.cells #[.int .i64 0, .int .i64 0] 27)).heap.size := by simp
  clear hc0 hG0
  generalize w.alloc (.cells #[.int .i64 0, .int .i64 0] 27) = u1 at *
  refine (pick_any g _ _ _ hc1 (by omega) (by omega)).mono ?_
  rintro e w2 ⟨v2, rfl, v2l, v2u, hc2, hg2⟩
  replace xr := box_chg xr hg2 (by omega)
  have hG2 := hG1.trans hg2
  have z2 := hg2.size
  clear hc1 hG1 hg2
  replace v2u : v2 ≤ 11 := by simpa using v2u
  go_wp2_with fail
  refine (pick_any g _ _ _ hc2 (by omega) (by omega)).mono ?_
  rintro e w3 ⟨v3, rfl, v3l, v3u, hc3, hg3⟩
  replace xr := box_chg xr hg3 (by omega)
  have hG3 := hG2.trans hg3
  have z3 := hg3.size
  clear hc2 hG2 hg3
  replace v3u : v3 ≤ 1 + v2 + 1 - 1 := by split at v3u <;> omega
  go_wp2_with fail
  refine (fMake_any _ _ _ (by omega) (by omega) (by omega) (by omega)).mono ?_
  rintro e w4 ⟨rfl, hb4⟩
  replace xr := box_below xr hb4
  have hc4 := hc3.below hb4
  have hG4 := hG3.then_ hb4
  have z4 := hb4.size
  clear hc3 hG3 hb4
  obtain ⟨f4, hf4⟩ : ∃ x, fN (redO (v3) (1 + v2)) = x := ⟨_, rfl⟩
  obtain ⟨d4, hd4⟩ : ∃ x, fD (redO (v3) (1 + v2)) = x := ⟨_, rfl⟩
  obtain ⟨b4, hb4⟩ : ∃ x, fB (redO (v3) (1 + v2)) = x := ⟨_, rfl⟩
  rw [hf4, hd4, hb4]
  clear hf4 hd4 hb4
  have cr0 := box_cell xr 0 _ rfl
  have fr0 := box_free xr 0
  have cr1 := box_cell xr 1 _ rfl
  have fr1 := box_free xr 1
  have lr := lt_of_block xr
  have y4 := store_two xr (.int .i64 f4) (.int .i64 d4)
  replace y4 := box_below y4 (below_new _ (.cells #[.int .i64 f4, .int .i64 d4] 27))
  have e0 := box_cell y4 0 _ rfl
  have e1 := box_cell y4 1 _ rfl
  go_wp2
  refine bodyPost_ret (v := .agg #[.int .i64 f4, .int .i64 d4]) (by simp [results, Try.results62, go_sem, e0, e1]) rfl ⟨f4, d4, rfl, (((hc4.far (p := ⟨w.heap.size, 0, none⟩) (by show g < w.heap.size; omega) (.int .i64 f4)).far (p := ⟨w.heap.size, 1, none⟩) (by show g < w.heap.size; omega) (.int .i64 d4)).below (below_new _ (.cells #[.int .i64 f4, .int .i64 d4] 27))).mono (by omega), (((hG4.setNewD (p := ⟨w.heap.size, 0, none⟩) (by show w.heap.size ≤ w.heap.size; omega) (.int .i64 f4)).setNewD (p := ⟨w.heap.size, 1, none⟩) (by show w.heap.size ≤ w.heap.size; omega) (.int .i64 d4)).alloc (.cells #[.int .i64 f4, .int .i64 d4] 27))⟩

set_option maxRecDepth 100000 in
set_option maxHeartbeats 2000000 in
theorem anyChance_any (g L : Nat) (w : World) (h : Cur w g L) (hL : L ≤ 791000) :
    Calls Try.prog 24 #[.pointer (some ⟨g, 0, none⟩)] w (DTwo g (L + 8) w) := by
  have hlt := h.lt
  have hc0 := h
  have hG0 := Chg.refl g (g + 1) w
  clear h
  go_enter Try.func24, Try.ntmps24
  go_wp2_with fail
  have xr := box_new w #[.int .i64 0, .int .i64 0] 27
  have hc1 := hc0.below (below_new w (.cells #[.int .i64 0, .int .i64 0] 27))
  have hG1 := hG0.alloc (.cells #[.int .i64 0, .int .i64 0] 27)
  have z1 : w.heap.size + 1 ≤ (w.alloc (.cells #[.int .i64 0, .int .i64 0] 27)).heap.size := by simp
  clear hc0 hG0
  generalize w.alloc (.cells #[.int .i64 0, .int .i64 0] 27) = u1 at *
  refine (one_any g _ _ _ hc1 (by omega) (by omega)).mono ?_
  rintro e w2 ⟨b2, rfl, hc2, hg2⟩
  replace xr := box_chg xr hg2 (by omega)
  have hG2 := hG1.trans hg2
  have z2 := hg2.size
  clear hc1 hG1 hg2
  cases b2
  · go_wp2_with fail
    refine (chance_any g _ _ hc2 (by omega)).mono ?_
    rintro e w3 ⟨p3, q3, rfl, hc3, hg3⟩
    replace xr := box_chg xr hg3 (by omega)
    have hG3 := hG2.trans hg3
    have z3 := hg3.size
    clear hc2 hG2 hg3
    have cr0 := box_cell xr 0 _ rfl
    have fr0 := box_free xr 0
    have cr1 := box_cell xr 1 _ rfl
    have fr1 := box_free xr 1
    have lr := lt_of_block xr
    have y4 := store_two xr (.int .i64 p3) (.int .i64 q3)
    have e0 := box_cell y4 0 _ rfl
    have e1 := box_cell y4 1 _ rfl
    go_wp2
    refine bodyPost_ret (v := .agg #[.int .i64 p3, .int .i64 q3]) (by simp [results, Try.results24, go_sem, e0, e1]) rfl ⟨p3, q3, rfl, ((hc3.far (p := ⟨w.heap.size, 0, none⟩) (by show g < w.heap.size; omega) (.int .i64 p3)).far (p := ⟨w.heap.size, 1, none⟩) (by show g < w.heap.size; omega) (.int .i64 q3)).mono (by omega), ((hG3.setNewD (p := ⟨w.heap.size, 0, none⟩) (by show w.heap.size ≤ w.heap.size; omega) (.int .i64 p3)).setNewD (p := ⟨w.heap.size, 1, none⟩) (by show w.heap.size ≤ w.heap.size; omega) (.int .i64 q3))⟩
  · go_wp2_with fail
    refine (anyFrac_any g _ _ hc2 (by omega)).mono ?_
    rintro e w4 ⟨p4, q4, rfl, hc4, hg4⟩
    replace xr := box_chg xr hg4 (by omega)
    have hG4 := hG2.trans hg4
    have z4 := hg4.size
    clear hc2 hG2 hg4
    have cr0 := box_cell xr 0 _ rfl
    have fr0 := box_free xr 0
    have cr1 := box_cell xr 1 _ rfl
    have fr1 := box_free xr 1
    have lr := lt_of_block xr
    have y4 := store_two xr (.int .i64 p4) (.int .i64 q4)
    have e0 := box_cell y4 0 _ rfl
    have e1 := box_cell y4 1 _ rfl
    go_wp2
    refine bodyPost_ret (v := .agg #[.int .i64 p4, .int .i64 q4]) (by simp [results, Try.results24, go_sem, e0, e1]) rfl ⟨p4, q4, rfl, ((hc4.far (p := ⟨w.heap.size, 0, none⟩) (by show g < w.heap.size; omega) (.int .i64 p4)).far (p := ⟨w.heap.size, 1, none⟩) (by show g < w.heap.size; omega) (.int .i64 q4)).mono (by omega), ((hG4.setNewD (p := ⟨w.heap.size, 0, none⟩) (by show w.heap.size ≤ w.heap.size; omega) (.int .i64 p4)).setNewD (p := ⟨w.heap.size, 1, none⟩) (by show w.heap.size ≤ w.heap.size; omega) (.int .i64 q4))⟩

end Go.Proofs.Ytgfihfmlofgopaa
