/- Drawn numbers, streams and fractions. -/
import Derived.Test.YtfkdmddfadkjoaaCur
import Derived.Test.YtfkdmddfadkjoaaFop
namespace Go.Proofs.Ytfkdmddfadkjoaa
open Go.RowKit

/-- A drawn pair. -/
def DTwo (g L : Nat) (w : World) (e : Ending) (w' : World) : Prop := ∃ p q : Int, e = .returned (.agg #[.int .i64 p, .int .i64 q]) ∧ Cur w' g L ∧ Chg g (g + 1) w w'
theorem Cur.far {w : World} {g L : Nat} (h : Cur w g L) {p : Addr} (hp : g < p.block) (v : Value) : Cur (w.setCell p v) g L := h.keep fun b hb => Below.heap_setCell w p v b (by omega)
theorem Chg.setNewD {lo hi : Nat} {a b : World} (h : Chg lo hi a b) {p : Addr} (hp : a.heap.size ≤ p.block) (v : Value) : Chg lo hi a (b.setCell p v) :=
  ⟨h.os, h.tape, h.output, by simpa [World.setCell] using h.size, fun k hk ho => (Below.heap_setCell b p v k (by omega)).trans (h.block k hk ho)⟩
theorem box_off {w : World} {g : Nat} {o : Obj} (h : w.heap[g]? = some o) {p : Addr} (hp : g ≠ p.block) (v : Value) : (w.setCell p v).heap[g]? = some o := (Below.heap_setCell w p v g hp).trans h
theorem own_lit {w : World} {g : Nat} (xs : List Int) (h : w.heap[g]? = some (.cells (xs.map (Value.int .i64)).toArray 3 (0, 0))) (hn : xs.length ≤ 1000) : OwnI w g (g + 1) (some ⟨g, 0, none⟩) xs.length xs.length xs := by
  have ho : Own w g (some ⟨g, 0, none⟩) xs.length xs.length xs := ⟨by simp, .inr ⟨g, xs.length, (xs.map (Value.int .i64)).toArray, rfl, Nat.le_refl _, h, Nat.le_refl _, by unfold maxLen; omega, by simp, by rw [Nat.mul_one]; exact List.take_of_length_le (by simp)⟩⟩
  exact ⟨ho, fun k hk => by (have : some g = some k := hk); injection this; omega, by omega⟩

set_option maxRecDepth 100000 in
set_option maxHeartbeats 2000000 in
theorem seed0_any (g L : Nat) (w : World) (h : Cur w g L) (hL : L ≤ 800000) :
    Calls Try.prog 159 #[.pointer (some ⟨g, 0, none⟩)] w (DInt (0) (4611686016279904236) g (L + 4) w) := by
  have hlt := h.lt
  have hc0 := h
  have hG0 := Chg.refl g (g + 1) w
  clear h
  go_enter Try.func159, Try.ntmps159
  go_wp2_with fail
  refine (pick_any g _ _ _ hc0 (by omega) (by omega)).mono ?_
  rintro e w1 ⟨v1, rfl, v1l, v1u, hc1, hg1⟩
  have hG1 := hG0.trans hg1
  have z1 := hg1.size
  clear hc0 hG0 hg1
  replace v1u : v1 ≤ 11 := by simpa using v1u
  by_cases tv10 : v1 = 0
  · subst tv10
    go_wp2
    go_ret
    exact ⟨_, rfl, (by omega), (by omega), hc1.mono (by omega), hG1⟩
  · have tv10E : (v1 == 0) = false := by rw [beq_eq_false_iff_ne]; exact tv10
    by_cases tv11 : v1 = 1
    · subst tv11
      go_wp2_with fail
      have xlit2 := box_new w1 #[.int .i64 4611686016279904236, .int .i64 123456789012] 3
      have hc2 := hc1.below (below_new w1 (.cells #[.int .i64 4611686016279904236, .int .i64 123456789012] 3))
      have hG2 := hG1.alloc (.cells #[.int .i64 4611686016279904236, .int .i64 123456789012] 3)
      have z2 : w1.heap.size + 1 ≤ (w1.alloc (.cells #[.int .i64 4611686016279904236, .int .i64 123456789012] 3)).heap.size := by simp
      clear hc1 hG1
      generalize w1.alloc (.cells #[.int .i64 4611686016279904236, .int .i64 123456789012] 3) = u2 at *
      have olit2 := own_lit [4611686016279904236, 123456789012] xlit2 (by decide)
      clear xlit2
      refine (among_any g _ _ _ _ _ _ (123456789012) (4611686016279904236) [4611686016279904236, 123456789012] _ hc2 (by omega) olit2 (by omega) (by decide) (by decide) (by decide)).mono ?_
      rintro e w3 ⟨v3, rfl, v3l, v3u, hc3, hg3⟩
      have hG3 := hG2.trans hg3
      have z3 := hg3.size
      clear hc2 hG2 hg3
      clear olit2
      go_wp2
      go_ret
      exact ⟨_, rfl, (by omega), (by omega), hc3.mono (by omega), hG3⟩
    · have tv11E : (v1 == 1) = false := by rw [beq_eq_false_iff_ne]; exact tv11
      go_wp2_with fail
      refine (pick_any g _ _ _ hc1 (by omega) (by omega)).mono ?_
      rintro e w4 ⟨v4, rfl, v4l, v4u, hc4, hg4⟩
      have hG4 := hG1.trans hg4
      have z4 := hg4.size
      clear hc1 hG1 hg4
      replace v4u : v4 ≤ 59999 := by simpa using v4u
      go_wp2
      go_ret
      exact ⟨_, rfl, (by omega), (by omega), hc4.mono (by omega), hG4⟩

set_option maxRecDepth 100000 in
set_option maxHeartbeats 2000000 in
theorem anySeed_any (g L : Nat) (w : World) (h : Cur w g L) (hL : L ≤ 799000) :
    Calls Try.prog 132 #[.pointer (some ⟨g, 0, none⟩)] w (DInt (-1) (4611686016279904237) g (L + 6) w) := by
  have hlt := h.lt
  have hc0 := h
  have hG0 := Chg.refl g (g + 1) w
  clear h
  go_enter Try.func132, Try.ntmps132
  go_wp2_with fail
  refine (one_any g _ _ _ hc0 (by omega) (by omega)).mono ?_
  rintro e w1 ⟨b1, rfl, hc1, hg1⟩
  have hG1 := hG0.trans hg1
  have z1 := hg1.size
  clear hc0 hG0 hg1
  cases b1
  · go_wp2_with fail
    refine (seed0_any g _ _ hc1 (by omega)).mono ?_
    rintro e w2 ⟨v2, rfl, v2l, v2u, hc2, hg2⟩
    have hG2 := hG1.trans hg2
    have z2 := hg2.size
    clear hc1 hG1 hg2
    go_wp2
    go_ret
    exact ⟨_, rfl, (by omega), (by omega), hc2.mono (by omega), hG2⟩
  · go_wp2_with fail
    have xlit3 := box_new w1 #[.int .i64 (-1), .int .i64 4611686016279904237] 3
    have hc3 := hc1.below (below_new w1 (.cells #[.int .i64 (-1), .int .i64 4611686016279904237] 3))
    have hG3 := hG1.alloc (.cells #[.int .i64 (-1), .int .i64 4611686016279904237] 3)
    have z3 : w1.heap.size + 1 ≤ (w1.alloc (.cells #[.int .i64 (-1), .int .i64 4611686016279904237] 3)).heap.size := by simp
    clear hc1 hG1
    generalize w1.alloc (.cells #[.int .i64 (-1), .int .i64 4611686016279904237] 3) = u3 at *
    have olit3 := own_lit [-1, 4611686016279904237] xlit3 (by decide)
    clear xlit3
    refine (among_any g _ _ _ _ _ _ (-1) (4611686016279904237) [-1, 4611686016279904237] _ hc3 (by omega) olit3 (by omega) (by decide) (by decide) (by decide)).mono ?_
    rintro e w4 ⟨v4, rfl, v4l, v4u, hc4, hg4⟩
    have hG4 := hG3.trans hg4
    have z4 := hg4.size
    clear hc3 hG3 hg4
    clear olit3
    go_wp2
    go_ret
    exact ⟨_, rfl, (by omega), (by omega), hc4.mono (by omega), hG4⟩

set_option maxRecDepth 100000 in
set_option maxHeartbeats 2000000 in
theorem stream_any (g L : Nat) (w : World) (h : Cur w g L) (hL : L ≤ 798000) :
    Calls Try.prog 143 #[.pointer (some ⟨g, 0, none⟩)] w (DTwo g (L + 8) w) := by
  have hlt := h.lt
  have hc0 := h
  have hG0 := Chg.refl g (g + 1) w
  clear h
  go_enter Try.func143, Try.ntmps143
  go_wp2_with fail
  have xr := box_new w #[.int .i64 0, .int .i64 0] 38
  have hc1 := hc0.below (below_new w (.cells #[.int .i64 0, .int .i64 0] 38))
  have hG1 := hG0.alloc (.cells #[.int .i64 0, .int .i64 0] 38)
  have z1 : w.heap.size + 1 ≤ (w.alloc (.cells #[.int .i64 0, .int .i64 0] 38)).heap.size := by simp
  clear hc0 hG0
  generalize w.alloc (.cells #[.int .i64 0, .int .i64 0] 38) = u1 at *
  refine (seed0_any g _ _ hc1 (by omega)).mono ?_
  rintro e w2 ⟨v2, rfl, v2l, v2u, hc2, hg2⟩
  replace xr := box_chg xr hg2 (by omega)
  have hG2 := hG1.trans hg2
  have z2 := hg2.size
  clear hc1 hG1 hg2
  go_wp2_with fail
  have xs := box_new w2 #[.int .i64 v2, .int .i64 0] 38
  replace xr := box_below xr (below_new w2 (.cells #[.int .i64 v2, .int .i64 0] 38))
  have hc3 := hc2.below (below_new w2 (.cells #[.int .i64 v2, .int .i64 0] 38))
  have hG3 := hG2.alloc (.cells #[.int .i64 v2, .int .i64 0] 38)
  have z3 : w2.heap.size + 1 ≤ (w2.alloc (.cells #[.int .i64 v2, .int .i64 0] 38)).heap.size := by simp
  clear hc2 hG2
  generalize w2.alloc (.cells #[.int .i64 v2, .int .i64 0] 38) = u3 at *
  refine (one_any g _ _ _ hc3 (by omega) (by omega)).mono ?_
  rintro e w4 ⟨b4, rfl, hc4, hg4⟩
  replace xr := box_chg xr hg4 (by omega)
  replace xs := box_chg xs hg4 (by omega)
  have hG4 := hG3.trans hg4
  have z4 := hg4.size
  clear hc3 hG3 hg4
  cases b4
  · have cr0 := box_cell xr 0 _ rfl
    have fr0 := box_free xr 0
    have cr1 := box_cell xr 1 _ rfl
    have fr1 := box_free xr 1
    have lr := lt_of_block xr
    have cs0 := box_cell xs 0 _ rfl
    have fs0 := box_free xs 0
    have cs1 := box_cell xs 1 _ rfl
    have fs1 := box_free xs 1
    have ls := lt_of_block xs
    have y4 := store_two xr (.int .i64 v2) (.int .i64 0)
    have e0 := box_cell y4 0 _ rfl
    have e1 := box_cell y4 1 _ rfl
    go_wp2
    refine bodyPost_ret (v := .agg #[.int .i64 v2, .int .i64 0]) (by simp [results, Try.results143, go_sem, e0, e1]) rfl ⟨v2, 0, rfl, ((hc4.far (p := ⟨w.heap.size, 0, none⟩) (by show g < w.heap.size; omega) (.int .i64 v2)).far (p := ⟨w.heap.size, 1, none⟩) (by show g < w.heap.size; omega) (.int .i64 0)).mono (by omega), ((hG4.setNewD (p := ⟨w.heap.size, 0, none⟩) (by show w.heap.size ≤ w.heap.size; omega) (.int .i64 v2)).setNewD (p := ⟨w.heap.size, 1, none⟩) (by show w.heap.size ≤ w.heap.size; omega) (.int .i64 0))⟩
  · go_wp2_with fail
    refine (pick_any g _ _ _ hc4 (by omega) (by omega)).mono ?_
    rintro e w5 ⟨v5, rfl, v5l, v5u, hc5, hg5⟩
    replace xr := box_chg xr hg5 (by omega)
    replace xs := box_chg xs hg5 (by omega)
    have hG5 := hG4.trans hg5
    have z5 := hg5.size
    clear hc4 hG4 hg5
    replace v5u : v5 ≤ 499 := by simpa using v5u
    have cr0 := box_cell xr 0 _ rfl
    have fr0 := box_free xr 0
    have cr1 := box_cell xr 1 _ rfl
    have fr1 := box_free xr 1
    have lr := lt_of_block xr
    have cs0 := box_cell xs 0 _ rfl
    have fs0 := box_free xs 0
    have cs1 := box_cell xs 1 _ rfl
    have fs1 := box_free xs 1
    have ls := lt_of_block xs
    have y4 := store_two (box_off xr (p := ⟨w2.heap.size, 1, none⟩) (by show w.heap.size ≠ w2.heap.size; omega) (.int .i64 v5)) (.int .i64 v2) (.int .i64 v5)
    have e0 := box_cell y4 0 _ rfl
    have e1 := box_cell y4 1 _ rfl
    go_wp2
    refine bodyPost_ret (v := .agg #[.int .i64 v2, .int .i64 v5]) (by simp [results, Try.results143, go_sem, e0, e1]) rfl ⟨v2, v5, rfl, (((hc5.far (p := ⟨w2.heap.size, 1, none⟩) (by show g < w2.heap.size; omega) (.int .i64 v5)).far (p := ⟨w.heap.size, 0, none⟩) (by show g < w.heap.size; omega) (.int .i64 v2)).far (p := ⟨w.heap.size, 1, none⟩) (by show g < w.heap.size; omega) (.int .i64 v5)).mono (by omega), (((hG5.setNewD (p := ⟨w2.heap.size, 1, none⟩) (by show w.heap.size ≤ w2.heap.size; omega) (.int .i64 v5)).setNewD (p := ⟨w.heap.size, 0, none⟩) (by show w.heap.size ≤ w.heap.size; omega) (.int .i64 v2)).setNewD (p := ⟨w.heap.size, 1, none⟩) (by show w.heap.size ≤ w.heap.size; omega) (.int .i64 v5))⟩

set_option maxRecDepth 100000 in
set_option maxHeartbeats 2000000 in
theorem anyStream_any (g L : Nat) (w : World) (h : Cur w g L) (hL : L ≤ 797000) :
    Calls Try.prog 95 #[.pointer (some ⟨g, 0, none⟩)] w (DTwo g (L + 16) w) := by
  have hlt := h.lt
  have hc0 := h
  have hG0 := Chg.refl g (g + 1) w
  clear h
  go_enter Try.func95, Try.ntmps95
  go_wp2_with fail
  have xr := box_new w #[.int .i64 0, .int .i64 0] 38
  have hc1 := hc0.below (below_new w (.cells #[.int .i64 0, .int .i64 0] 38))
  have hG1 := hG0.alloc (.cells #[.int .i64 0, .int .i64 0] 38)
  have z1 : w.heap.size + 1 ≤ (w.alloc (.cells #[.int .i64 0, .int .i64 0] 38)).heap.size := by simp
  clear hc0 hG0
  generalize w.alloc (.cells #[.int .i64 0, .int .i64 0] 38) = u1 at *
  refine (stream_any g _ _ hc1 (by omega)).mono ?_
  rintro e w2 ⟨p2, q2, rfl, hc2, hg2⟩
  replace xr := box_chg xr hg2 (by omega)
  have hG2 := hG1.trans hg2
  have z2 := hg2.size
  clear hc1 hG1 hg2
  go_wp2_with fail
  have xs := box_new w2 #[.int .i64 p2, .int .i64 q2] 38
  replace xr := box_below xr (below_new w2 (.cells #[.int .i64 p2, .int .i64 q2] 38))
  have hc3 := hc2.below (below_new w2 (.cells #[.int .i64 p2, .int .i64 q2] 38))
  have hG3 := hG2.alloc (.cells #[.int .i64 p2, .int .i64 q2] 38)
  have z3 : w2.heap.size + 1 ≤ (w2.alloc (.cells #[.int .i64 p2, .int .i64 q2] 38)).heap.size := by simp
  clear hc2 hG2
  generalize w2.alloc (.cells #[.int .i64 p2, .int .i64 q2] 38) = u3 at *
  refine (pick_any g _ _ _ hc3 (by omega) (by omega)).mono ?_
  rintro e w4 ⟨v4, rfl, v4l, v4u, hc4, hg4⟩
  replace xr := box_chg xr hg4 (by omega)
  replace xs := box_chg xs hg4 (by omega)
  have hG4 := hG3.trans hg4
  have z4 := hg4.size
  clear hc3 hG3 hg4
  replace v4u : v4 ≤ 23 := by simpa using v4u
  by_cases tv40 : v4 = 0
  · subst tv40
    go_wp2_with fail
    refine (anySeed_any g _ _ hc4 (by omega)).mono ?_
    rintro e w5 ⟨v5, rfl, v5l, v5u, hc5, hg5⟩
    replace xr := box_chg xr hg5 (by omega)
    replace xs := box_chg xs hg5 (by omega)
    have hG5 := hG4.trans hg5
    have z5 := hg5.size
    clear hc4 hG4 hg5
    have cr0 := box_cell xr 0 _ rfl
    have fr0 := box_free xr 0
    have cr1 := box_cell xr 1 _ rfl
    have fr1 := box_free xr 1
    have lr := lt_of_block xr
    have cs0 := box_cell xs 0 _ rfl
    have fs0 := box_free xs 0
    have cs1 := box_cell xs 1 _ rfl
    have fs1 := box_free xs 1
    have ls := lt_of_block xs
    have y4 := store_two (box_off xr (p := ⟨w2.heap.size, 0, none⟩) (by show w.heap.size ≠ w2.heap.size; omega) (.int .i64 v5)) (.int .i64 v5) (.int .i64 q2)
    have e0 := box_cell y4 0 _ rfl
    have e1 := box_cell y4 1 _ rfl
    go_wp2
    refine bodyPost_ret (v := .agg #[.int .i64 v5, .int .i64 q2]) (by simp [results, Try.results95, go_sem, e0, e1]) rfl ⟨v5, q2, rfl, (((hc5.far (p := ⟨w2.heap.size, 0, none⟩) (by show g < w2.heap.size; omega) (.int .i64 v5)).far (p := ⟨w.heap.size, 0, none⟩) (by show g < w.heap.size; omega) (.int .i64 v5)).far (p := ⟨w.heap.size, 1, none⟩) (by show g < w.heap.size; omega) (.int .i64 q2)).mono (by omega), (((hG5.setNewD (p := ⟨w2.heap.size, 0, none⟩) (by show w.heap.size ≤ w2.heap.size; omega) (.int .i64 v5)).setNewD (p := ⟨w.heap.size, 0, none⟩) (by show w.heap.size ≤ w.heap.size; omega) (.int .i64 v5)).setNewD (p := ⟨w.heap.size, 1, none⟩) (by show w.heap.size ≤ w.heap.size; omega) (.int .i64 q2))⟩
  · have tv40E : (v4 == 0) = false := by rw [beq_eq_false_iff_ne]; exact tv40
    by_cases tv41 : v4 = 1
    · subst tv41
      go_wp2_with fail
      have xlit6 := box_new w4 #[.int .i64 (-1), .int .i64 1000000, .int .i64 1000001, .int .i64 999997] 3
      replace xr := box_below xr (below_new w4 (.cells #[.int .i64 (-1), .int .i64 1000000, .int .i64 1000001, .int .i64 999997] 3))
      replace xs := box_below xs (below_new w4 (.cells #[.int .i64 (-1), .int .i64 1000000, .int .i64 1000001, .int .i64 999997] 3))
      have hc6 := hc4.below (below_new w4 (.cells #[.int .i64 (-1), .int .i64 1000000, .int .i64 1000001, .int .i64 999997] 3))
      have hG6 := hG4.alloc (.cells #[.int .i64 (-1), .int .i64 1000000, .int .i64 1000001, .int .i64 999997] 3)
      have z6 : w4.heap.size + 1 ≤ (w4.alloc (.cells #[.int .i64 (-1), .int .i64 1000000, .int .i64 1000001, .int .i64 999997] 3)).heap.size := by simp
      clear hc4 hG4
      generalize w4.alloc (.cells #[.int .i64 (-1), .int .i64 1000000, .int .i64 1000001, .int .i64 999997] 3) = u6 at *
      have olit6 := own_lit [-1, 1000000, 1000001, 999997] xlit6 (by decide)
      clear xlit6
      refine (among_any g _ _ _ _ _ _ (-1) (1000001) [-1, 1000000, 1000001, 999997] _ hc6 (by omega) olit6 (by omega) (by decide) (by decide) (by decide)).mono ?_
      rintro e w7 ⟨v7, rfl, v7l, v7u, hc7, hg7⟩
      replace xr := box_chg xr hg7 (by omega)
      replace xs := box_chg xs hg7 (by omega)
      have hG7 := hG6.trans hg7
      have z7 := hg7.size
      clear hc6 hG6 hg7
      clear olit6
      have cr0 := box_cell xr 0 _ rfl
      have fr0 := box_free xr 0
      have cr1 := box_cell xr 1 _ rfl
      have fr1 := box_free xr 1
      have lr := lt_of_block xr
      have cs0 := box_cell xs 0 _ rfl
      have fs0 := box_free xs 0
      have cs1 := box_cell xs 1 _ rfl
      have fs1 := box_free xs 1
      have ls := lt_of_block xs
      have y4 := store_two (box_off xr (p := ⟨w2.heap.size, 1, none⟩) (by show w.heap.size ≠ w2.heap.size; omega) (.int .i64 v7)) (.int .i64 p2) (.int .i64 v7)
      have e0 := box_cell y4 0 _ rfl
      have e1 := box_cell y4 1 _ rfl
      go_wp2
      refine bodyPost_ret (v := .agg #[.int .i64 p2, .int .i64 v7]) (by simp [results, Try.results95, go_sem, e0, e1]) rfl ⟨p2, v7, rfl, (((hc7.far (p := ⟨w2.heap.size, 1, none⟩) (by show g < w2.heap.size; omega) (.int .i64 v7)).far (p := ⟨w.heap.size, 0, none⟩) (by show g < w.heap.size; omega) (.int .i64 p2)).far (p := ⟨w.heap.size, 1, none⟩) (by show g < w.heap.size; omega) (.int .i64 v7)).mono (by omega), (((hG7.setNewD (p := ⟨w2.heap.size, 1, none⟩) (by show w.heap.size ≤ w2.heap.size; omega) (.int .i64 v7)).setNewD (p := ⟨w.heap.size, 0, none⟩) (by show w.heap.size ≤ w.heap.size; omega) (.int .i64 p2)).setNewD (p := ⟨w.heap.size, 1, none⟩) (by show w.heap.size ≤ w.heap.size; omega) (.int .i64 v7))⟩
    · have tv41E : (v4 == 1) = false := by rw [beq_eq_false_iff_ne]; exact tv41
      have cr0 := box_cell xr 0 _ rfl
      have fr0 := box_free xr 0
      have cr1 := box_cell xr 1 _ rfl
      have fr1 := box_free xr 1
      have lr := lt_of_block xr
      have cs0 := box_cell xs 0 _ rfl
      have fs0 := box_free xs 0
      have cs1 := box_cell xs 1 _ rfl
      have fs1 := box_free xs 1
      have ls := lt_of_block xs
      have y4 := store_two xr (.int .i64 p2) (.int .i64 q2)
      have e0 := box_cell y4 0 _ rfl
      have e1 := box_cell y4 1 _ rfl
      go_wp2
      refine bodyPost_ret (v := .agg #[.int .i64 p2, .int .i64 q2]) (by simp [results, Try.results95, go_sem, e0, e1]) rfl ⟨p2, q2, rfl, ((hc4.far (p := ⟨w.heap.size, 0, none⟩) (by show g < w.heap.size; omega) (.int .i64 p2)).far (p := ⟨w.heap.size, 1, none⟩) (by show g < w.heap.size; omega) (.int .i64 q2)).mono (by omega), ((hG4.setNewD (p := ⟨w.heap.size, 0, none⟩) (by show w.heap.size ≤ w.heap.size; omega) (.int .i64 p2)).setNewD (p := ⟨w.heap.size, 1, none⟩) (by show w.heap.size ≤ w.heap.size; omega) (.int .i64 q2))⟩

set_option maxRecDepth 100000 in
set_option maxHeartbeats 2000000 in
theorem frac_any (g L : Nat) (w : World) (h : Cur w g L) (hL : L ≤ 796000) :
    Calls Try.prog 151 #[.pointer (some ⟨g, 0, none⟩)] w (DTwo g (L + 4) w) := by
  have hlt := h.lt
  have hc0 := h
  have hG0 := Chg.refl g (g + 1) w
  clear h
  go_enter Try.func151, Try.ntmps151
  go_wp2_with fail
  have xr := box_new w #[.int .i64 0, .int .i64 0] 28
  have hc1 := hc0.below (below_new w (.cells #[.int .i64 0, .int .i64 0] 28))
  have hG1 := hG0.alloc (.cells #[.int .i64 0, .int .i64 0] 28)
  have z1 : w.heap.size + 1 ≤ (w.alloc (.cells #[.int .i64 0, .int .i64 0] 28)).heap.size := by simp
  clear hc0 hG0
  generalize w.alloc (.cells #[.int .i64 0, .int .i64 0] 28) = u1 at *
  refine (pick_any g _ _ _ hc1 (by omega) (by omega)).mono ?_
  rintro e w2 ⟨v2, rfl, v2l, v2u, hc2, hg2⟩
  replace xr := box_chg xr hg2 (by omega)
  have hG2 := hG1.trans hg2
  have z2 := hg2.size
  clear hc1 hG1 hg2
  replace v2u : v2 ≤ 40 := by simpa using v2u
  go_wp2_with fail
  refine (pick_any g _ _ _ hc2 (by omega) (by omega)).mono ?_
  rintro e w3 ⟨v3, rfl, v3l, v3u, hc3, hg3⟩
  replace xr := box_chg xr hg3 (by omega)
  have hG3 := hG2.trans hg3
  have z3 := hg3.size
  clear hc2 hG2 hg3
  replace v3u : v3 ≤ 11 := by simpa using v3u
  go_wp2_with fail
  refine (fMake_any _ _ _ (by omega) (by omega) (by omega) (by omega)).mono ?_
  rintro e w4 ⟨rfl, hb4⟩
  replace xr := box_below xr hb4
  have hc4 := hc3.below hb4
  have hG4 := hG3.then_ hb4
  have z4 := hb4.size
  clear hc3 hG3 hb4
  obtain ⟨f4, hf4⟩ : ∃ x, fN (redO (v2 - 20) (1 + v3)) = x := ⟨_, rfl⟩
  obtain ⟨d4, hd4⟩ : ∃ x, fD (redO (v2 - 20) (1 + v3)) = x := ⟨_, rfl⟩
  obtain ⟨b4, hb4⟩ : ∃ x, fB (redO (v2 - 20) (1 + v3)) = x := ⟨_, rfl⟩
  rw [hf4, hd4, hb4]
  clear hf4 hd4 hb4
  have cr0 := box_cell xr 0 _ rfl
  have fr0 := box_free xr 0
  have cr1 := box_cell xr 1 _ rfl
  have fr1 := box_free xr 1
  have lr := lt_of_block xr
  have y4 := store_two xr (.int .i64 f4) (.int .i64 d4)
  replace y4 := box_below y4 (below_new _ (.cells #[.int .i64 f4, .int .i64 d4] 28))
  have e0 := box_cell y4 0 _ rfl
  have e1 := box_cell y4 1 _ rfl
  go_wp2
  refine bodyPost_ret (v := .agg #[.int .i64 f4, .int .i64 d4]) (by simp [results, Try.results151, go_sem, e0, e1]) rfl ⟨f4, d4, rfl, (((hc4.far (p := ⟨w.heap.size, 0, none⟩) (by show g < w.heap.size; omega) (.int .i64 f4)).far (p := ⟨w.heap.size, 1, none⟩) (by show g < w.heap.size; omega) (.int .i64 d4)).below (below_new _ (.cells #[.int .i64 f4, .int .i64 d4] 28))).mono (by omega), (((hG4.setNewD (p := ⟨w.heap.size, 0, none⟩) (by show w.heap.size ≤ w.heap.size; omega) (.int .i64 f4)).setNewD (p := ⟨w.heap.size, 1, none⟩) (by show w.heap.size ≤ w.heap.size; omega) (.int .i64 d4)).alloc (.cells #[.int .i64 f4, .int .i64 d4] 28))⟩

set_option maxRecDepth 100000 in
set_option maxHeartbeats 2000000 in
theorem anyFrac_any (g L : Nat) (w : World) (h : Cur w g L) (hL : L ≤ 795000) :
    Calls Try.prog 112 #[.pointer (some ⟨g, 0, none⟩)] w (DTwo g (L + 6) w) := by
  have hlt := h.lt
  have hc0 := h
  have hG0 := Chg.refl g (g + 1) w
  clear h
  go_enter Try.func112, Try.ntmps112
  go_wp2_with fail
  have xr := box_new w #[.int .i64 0, .int .i64 0] 28
  have hc1 := hc0.below (below_new w (.cells #[.int .i64 0, .int .i64 0] 28))
  have hG1 := hG0.alloc (.cells #[.int .i64 0, .int .i64 0] 28)
  have z1 : w.heap.size + 1 ≤ (w.alloc (.cells #[.int .i64 0, .int .i64 0] 28)).heap.size := by simp
  clear hc0 hG0
  generalize w.alloc (.cells #[.int .i64 0, .int .i64 0] 28) = u1 at *
  refine (pick_any g _ _ _ hc1 (by omega) (by omega)).mono ?_
  rintro e w2 ⟨v2, rfl, v2l, v2u, hc2, hg2⟩
  replace xr := box_chg xr hg2 (by omega)
  have hG2 := hG1.trans hg2
  have z2 := hg2.size
  clear hc1 hG1 hg2
  replace v2u : v2 ≤ 15 := by simpa using v2u
  by_cases tv20 : v2 = 0
  · subst tv20
    go_wp2_with fail
    have xlit3 := box_new w2 #[.int .i64 1000000000, .int .i64 (-1000000000), .int .i64 999999999, .int .i64 1000000001] 3
    replace xr := box_below xr (below_new w2 (.cells #[.int .i64 1000000000, .int .i64 (-1000000000), .int .i64 999999999, .int .i64 1000000001] 3))
    have hc3 := hc2.below (below_new w2 (.cells #[.int .i64 1000000000, .int .i64 (-1000000000), .int .i64 999999999, .int .i64 1000000001] 3))
    have hG3 := hG2.alloc (.cells #[.int .i64 1000000000, .int .i64 (-1000000000), .int .i64 999999999, .int .i64 1000000001] 3)
    have z3 : w2.heap.size + 1 ≤ (w2.alloc (.cells #[.int .i64 1000000000, .int .i64 (-1000000000), .int .i64 999999999, .int .i64 1000000001] 3)).heap.size := by simp
    clear hc2 hG2
    generalize w2.alloc (.cells #[.int .i64 1000000000, .int .i64 (-1000000000), .int .i64 999999999, .int .i64 1000000001] 3) = u3 at *
    have olit3 := own_lit [1000000000, -1000000000, 999999999, 1000000001] xlit3 (by decide)
    clear xlit3
    refine (among_any g _ _ _ _ _ _ (-1000000000) (1000000001) [1000000000, -1000000000, 999999999, 1000000001] _ hc3 (by omega) olit3 (by omega) (by decide) (by decide) (by decide)).mono ?_
    rintro e w4 ⟨v4, rfl, v4l, v4u, hc4, hg4⟩
    replace xr := box_chg xr hg4 (by omega)
    have hG4 := hG3.trans hg4
    have z4 := hg4.size
    clear hc3 hG3 hg4
    clear olit3
    go_wp2_with fail
    have xlit5 := box_new w4 #[.int .i64 1, .int .i64 7, .int .i64 999999999, .int .i64 999999937] 3
    replace xr := box_below xr (below_new w4 (.cells #[.int .i64 1, .int .i64 7, .int .i64 999999999, .int .i64 999999937] 3))
    have hc5 := hc4.below (below_new w4 (.cells #[.int .i64 1, .int .i64 7, .int .i64 999999999, .int .i64 999999937] 3))
    have hG5 := hG4.alloc (.cells #[.int .i64 1, .int .i64 7, .int .i64 999999999, .int .i64 999999937] 3)
    have z5 : w4.heap.size + 1 ≤ (w4.alloc (.cells #[.int .i64 1, .int .i64 7, .int .i64 999999999, .int .i64 999999937] 3)).heap.size := by simp
    clear hc4 hG4
    generalize w4.alloc (.cells #[.int .i64 1, .int .i64 7, .int .i64 999999999, .int .i64 999999937] 3) = u5 at *
    have olit5 := own_lit [1, 7, 999999999, 999999937] xlit5 (by decide)
    clear xlit5
    refine (among_any g _ _ _ _ _ _ (1) (999999999) [1, 7, 999999999, 999999937] _ hc5 (by omega) olit5 (by omega) (by decide) (by decide) (by decide)).mono ?_
    rintro e w6 ⟨v6, rfl, v6l, v6u, hc6, hg6⟩
    replace xr := box_chg xr hg6 (by omega)
    have hG6 := hG5.trans hg6
    have z6 := hg6.size
    clear hc5 hG5 hg6
    clear olit5
    have cr0 := box_cell xr 0 _ rfl
    have fr0 := box_free xr 0
    have cr1 := box_cell xr 1 _ rfl
    have fr1 := box_free xr 1
    have lr := lt_of_block xr
    have y4 := store_two xr (.int .i64 v4) (.int .i64 v6)
    have e0 := box_cell y4 0 _ rfl
    have e1 := box_cell y4 1 _ rfl
    go_wp2
    refine bodyPost_ret (v := .agg #[.int .i64 v4, .int .i64 v6]) (by simp [results, Try.results112, go_sem, e0, e1]) rfl ⟨v4, v6, rfl, ((hc6.far (p := ⟨w.heap.size, 0, none⟩) (by show g < w.heap.size; omega) (.int .i64 v4)).far (p := ⟨w.heap.size, 1, none⟩) (by show g < w.heap.size; omega) (.int .i64 v6)).mono (by omega), ((hG6.setNewD (p := ⟨w.heap.size, 0, none⟩) (by show w.heap.size ≤ w.heap.size; omega) (.int .i64 v4)).setNewD (p := ⟨w.heap.size, 1, none⟩) (by show w.heap.size ≤ w.heap.size; omega) (.int .i64 v6))⟩
  · have tv20E : (v2 == 0) = false := by rw [beq_eq_false_iff_ne]; exact tv20
    by_cases tv21 : v2 = 1
    · subst tv21
      go_wp2_with fail
      refine (pick_any g _ _ _ hc2 (by omega) (by omega)).mono ?_
      rintro e w7 ⟨v7, rfl, v7l, v7u, hc7, hg7⟩
      replace xr := box_chg xr hg7 (by omega)
      have hG7 := hG2.trans hg7
      have z7 := hg7.size
      clear hc2 hG2 hg7
      replace v7u : v7 ≤ 8 := by simpa using v7u
      go_wp2_with fail
      refine (pick_any g _ _ _ hc7 (by omega) (by omega)).mono ?_
      rintro e w8 ⟨v8, rfl, v8l, v8u, hc8, hg8⟩
      replace xr := box_chg xr hg8 (by omega)
      have hG8 := hG7.trans hg8
      have z8 := hg8.size
      clear hc7 hG7 hg8
      replace v8u : v8 ≤ 6 := by simpa using v8u
      have cr0 := box_cell xr 0 _ rfl
      have fr0 := box_free xr 0
      have cr1 := box_cell xr 1 _ rfl
      have fr1 := box_free xr 1
      have lr := lt_of_block xr
      have y4 := store_two xr (.int .i64 (v7 - 4)) (.int .i64 (v8 - 1))
      have e0 := box_cell y4 0 _ rfl
      have e1 := box_cell y4 1 _ rfl
      go_wp2
      refine bodyPost_ret (v := .agg #[.int .i64 (v7 - 4), .int .i64 (v8 - 1)]) (by simp [results, Try.results112, go_sem, e0, e1]) rfl ⟨(v7 - 4), (v8 - 1), rfl, ((hc8.far (p := ⟨w.heap.size, 0, none⟩) (by show g < w.heap.size; omega) (.int .i64 (v7 - 4))).far (p := ⟨w.heap.size, 1, none⟩) (by show g < w.heap.size; omega) (.int .i64 (v8 - 1))).mono (by omega), ((hG8.setNewD (p := ⟨w.heap.size, 0, none⟩) (by show w.heap.size ≤ w.heap.size; omega) (.int .i64 (v7 - 4))).setNewD (p := ⟨w.heap.size, 1, none⟩) (by show w.heap.size ≤ w.heap.size; omega) (.int .i64 (v8 - 1)))⟩
    · have tv21E : (v2 == 1) = false := by rw [beq_eq_false_iff_ne]; exact tv21
      by_cases tv22 : v2 = 2
      · subst tv22
        go_wp2_with fail
        refine (pick_any g _ _ _ hc2 (by omega) (by omega)).mono ?_
        rintro e w9 ⟨v9, rfl, v9l, v9u, hc9, hg9⟩
        replace xr := box_chg xr hg9 (by omega)
        have hG9 := hG2.trans hg9
        have z9 := hg9.size
        clear hc2 hG2 hg9
        replace v9u : v9 ≤ 2 := by simpa using v9u
        go_wp2_with fail
        have xlit10 := box_new w9 #[.int .i64 1000000000, .int .i64 1000000001, .int .i64 999999937] 3
        replace xr := box_below xr (below_new w9 (.cells #[.int .i64 1000000000, .int .i64 1000000001, .int .i64 999999937] 3))
        have hc10 := hc9.below (below_new w9 (.cells #[.int .i64 1000000000, .int .i64 1000000001, .int .i64 999999937] 3))
        have hG10 := hG9.alloc (.cells #[.int .i64 1000000000, .int .i64 1000000001, .int .i64 999999937] 3)
        have z10 : w9.heap.size + 1 ≤ (w9.alloc (.cells #[.int .i64 1000000000, .int .i64 1000000001, .int .i64 999999937] 3)).heap.size := by simp
        clear hc9 hG9
        generalize w9.alloc (.cells #[.int .i64 1000000000, .int .i64 1000000001, .int .i64 999999937] 3) = u10 at *
        have olit10 := own_lit [1000000000, 1000000001, 999999937] xlit10 (by decide)
        clear xlit10
        refine (among_any g _ _ _ _ _ _ (999999937) (1000000001) [1000000000, 1000000001, 999999937] _ hc10 (by omega) olit10 (by omega) (by decide) (by decide) (by decide)).mono ?_
        rintro e w11 ⟨v11, rfl, v11l, v11u, hc11, hg11⟩
        replace xr := box_chg xr hg11 (by omega)
        have hG11 := hG10.trans hg11
        have z11 := hg11.size
        clear hc10 hG10 hg11
        clear olit10
        have cr0 := box_cell xr 0 _ rfl
        have fr0 := box_free xr 0
        have cr1 := box_cell xr 1 _ rfl
        have fr1 := box_free xr 1
        have lr := lt_of_block xr
        have y4 := store_two xr (.int .i64 v9) (.int .i64 v11)
        have e0 := box_cell y4 0 _ rfl
        have e1 := box_cell y4 1 _ rfl
        go_wp2
        refine bodyPost_ret (v := .agg #[.int .i64 v9, .int .i64 v11]) (by simp [results, Try.results112, go_sem, e0, e1]) rfl ⟨v9, v11, rfl, ((hc11.far (p := ⟨w.heap.size, 0, none⟩) (by show g < w.heap.size; omega) (.int .i64 v9)).far (p := ⟨w.heap.size, 1, none⟩) (by show g < w.heap.size; omega) (.int .i64 v11)).mono (by omega), ((hG11.setNewD (p := ⟨w.heap.size, 0, none⟩) (by show w.heap.size ≤ w.heap.size; omega) (.int .i64 v9)).setNewD (p := ⟨w.heap.size, 1, none⟩) (by show w.heap.size ≤ w.heap.size; omega) (.int .i64 v11))⟩
      · have tv22E : (v2 == 2) = false := by rw [beq_eq_false_iff_ne]; exact tv22
        go_wp2_with fail
        refine (frac_any g _ _ hc2 (by omega)).mono ?_
        rintro e w12 ⟨p12, q12, rfl, hc12, hg12⟩
        replace xr := box_chg xr hg12 (by omega)
        have hG12 := hG2.trans hg12
        have z12 := hg12.size
        clear hc2 hG2 hg12
        have cr0 := box_cell xr 0 _ rfl
        have fr0 := box_free xr 0
        have cr1 := box_cell xr 1 _ rfl
        have fr1 := box_free xr 1
        have lr := lt_of_block xr
        have y4 := store_two xr (.int .i64 p12) (.int .i64 q12)
        have e0 := box_cell y4 0 _ rfl
        have e1 := box_cell y4 1 _ rfl
        go_wp2
        refine bodyPost_ret (v := .agg #[.int .i64 p12, .int .i64 q12]) (by simp [results, Try.results112, go_sem, e0, e1]) rfl ⟨p12, q12, rfl, ((hc12.far (p := ⟨w.heap.size, 0, none⟩) (by show g < w.heap.size; omega) (.int .i64 p12)).far (p := ⟨w.heap.size, 1, none⟩) (by show g < w.heap.size; omega) (.int .i64 q12)).mono (by omega), ((hG12.setNewD (p := ⟨w.heap.size, 0, none⟩) (by show w.heap.size ≤ w.heap.size; omega) (.int .i64 p12)).setNewD (p := ⟨w.heap.size, 1, none⟩) (by show w.heap.size ≤ w.heap.size; omega) (.int .i64 q12))⟩

set_option maxRecDepth 100000 in
set_option maxHeartbeats 2000000 in
theorem ratio_any (g L : Nat) (w : World) (h : Cur w g L) (hL : L ≤ 794000) :
    Calls Try.prog 158 #[.pointer (some ⟨g, 0, none⟩)] w (DTwo g (L + 4) w) := by
  have hlt := h.lt
  have hc0 := h
  have hG0 := Chg.refl g (g + 1) w
  clear h
  go_enter Try.func158, Try.ntmps158
  go_wp2_with fail
  have xr := box_new w #[.int .i64 0, .int .i64 0] 28
  have hc1 := hc0.below (below_new w (.cells #[.int .i64 0, .int .i64 0] 28))
  have hG1 := hG0.alloc (.cells #[.int .i64 0, .int .i64 0] 28)
  have z1 : w.heap.size + 1 ≤ (w.alloc (.cells #[.int .i64 0, .int .i64 0] 28)).heap.size := by simp
  clear hc0 hG0
  generalize w.alloc (.cells #[.int .i64 0, .int .i64 0] 28) = u1 at *
  refine (pick_any g _ _ _ hc1 (by omega) (by omega)).mono ?_
  rintro e w2 ⟨v2, rfl, v2l, v2u, hc2, hg2⟩
  replace xr := box_chg xr hg2 (by omega)
  have hG2 := hG1.trans hg2
  have z2 := hg2.size
  clear hc1 hG1 hg2
  replace v2u : v2 ≤ 8 := by simpa using v2u
  go_wp2_with fail
  refine (pick_any g _ _ _ hc2 (by omega) (by omega)).mono ?_
  rintro e w3 ⟨v3, rfl, v3l, v3u, hc3, hg3⟩
  replace xr := box_chg xr hg3 (by omega)
  have hG3 := hG2.trans hg3
  have z3 := hg3.size
  clear hc2 hG2 hg3
  replace v3u : v3 ≤ 2 + v2 - 1 - 1 := by split at v3u <;> omega
  go_wp2_with fail
  refine (fMake_any _ _ _ (by omega) (by omega) (by omega) (by omega)).mono ?_
  rintro e w4 ⟨rfl, hb4⟩
  replace xr := box_below xr hb4
  have hc4 := hc3.below hb4
  have hG4 := hG3.then_ hb4
  have z4 := hb4.size
  clear hc3 hG3 hb4
  obtain ⟨f4, hf4⟩ : ∃ x, fN (redO (1 + v3) (2 + v2)) = x := ⟨_, rfl⟩
  obtain ⟨d4, hd4⟩ : ∃ x, fD (redO (1 + v3) (2 + v2)) = x := ⟨_, rfl⟩
  obtain ⟨b4, hb4⟩ : ∃ x, fB (redO (1 + v3) (2 + v2)) = x := ⟨_, rfl⟩
  rw [hf4, hd4, hb4]
  clear hf4 hd4 hb4
  have cr0 := box_cell xr 0 _ rfl
  have fr0 := box_free xr 0
  have cr1 := box_cell xr 1 _ rfl
  have fr1 := box_free xr 1
  have lr := lt_of_block xr
  have y4 := store_two xr (.int .i64 f4) (.int .i64 d4)
  replace y4 := box_below y4 (below_new _ (.cells #[.int .i64 f4, .int .i64 d4] 28))
  have e0 := box_cell y4 0 _ rfl
  have e1 := box_cell y4 1 _ rfl
  go_wp2
  refine bodyPost_ret (v := .agg #[.int .i64 f4, .int .i64 d4]) (by simp [results, Try.results158, go_sem, e0, e1]) rfl ⟨f4, d4, rfl, (((hc4.far (p := ⟨w.heap.size, 0, none⟩) (by show g < w.heap.size; omega) (.int .i64 f4)).far (p := ⟨w.heap.size, 1, none⟩) (by show g < w.heap.size; omega) (.int .i64 d4)).below (below_new _ (.cells #[.int .i64 f4, .int .i64 d4] 28))).mono (by omega), (((hG4.setNewD (p := ⟨w.heap.size, 0, none⟩) (by show w.heap.size ≤ w.heap.size; omega) (.int .i64 f4)).setNewD (p := ⟨w.heap.size, 1, none⟩) (by show w.heap.size ≤ w.heap.size; omega) (.int .i64 d4)).alloc (.cells #[.int .i64 f4, .int .i64 d4] 28))⟩

set_option maxRecDepth 100000 in
set_option maxHeartbeats 2000000 in
theorem anyRatio_any (g L : Nat) (w : World) (h : Cur w g L) (hL : L ≤ 793000) :
    Calls Try.prog 131 #[.pointer (some ⟨g, 0, none⟩)] w (DTwo g (L + 8) w) := by
  have hlt := h.lt
  have hc0 := h
  have hG0 := Chg.refl g (g + 1) w
  clear h
  go_enter Try.func131, Try.ntmps131
  go_wp2_with fail
  have xr := box_new w #[.int .i64 0, .int .i64 0] 28
  have hc1 := hc0.below (below_new w (.cells #[.int .i64 0, .int .i64 0] 28))
  have hG1 := hG0.alloc (.cells #[.int .i64 0, .int .i64 0] 28)
  have z1 : w.heap.size + 1 ≤ (w.alloc (.cells #[.int .i64 0, .int .i64 0] 28)).heap.size := by simp
  clear hc0 hG0
  generalize w.alloc (.cells #[.int .i64 0, .int .i64 0] 28) = u1 at *
  refine (one_any g _ _ _ hc1 (by omega) (by omega)).mono ?_
  rintro e w2 ⟨b2, rfl, hc2, hg2⟩
  replace xr := box_chg xr hg2 (by omega)
  have hG2 := hG1.trans hg2
  have z2 := hg2.size
  clear hc1 hG1 hg2
  cases b2
  · go_wp2_with fail
    refine (ratio_any g _ _ hc2 (by omega)).mono ?_
    rintro e w3 ⟨p3, q3, rfl, hc3, hg3⟩
    replace xr := box_chg xr hg3 (by omega)
    have hG3 := hG2.trans hg3
    have z3 := hg3.size
    clear hc2 hG2 hg3
    have cr0 := box_cell xr 0 _ rfl
    have fr0 := box_free xr 0
    have cr1 := box_cell xr 1 _ rfl
    have fr1 := box_free xr 1
    have lr := lt_of_block xr
    have y4 := store_two xr (.int .i64 p3) (.int .i64 q3)
    have e0 := box_cell y4 0 _ rfl
    have e1 := box_cell y4 1 _ rfl
    go_wp2
    refine bodyPost_ret (v := .agg #[.int .i64 p3, .int .i64 q3]) (by simp [results, Try.results131, go_sem, e0, e1]) rfl ⟨p3, q3, rfl, ((hc3.far (p := ⟨w.heap.size, 0, none⟩) (by show g < w.heap.size; omega) (.int .i64 p3)).far (p := ⟨w.heap.size, 1, none⟩) (by show g < w.heap.size; omega) (.int .i64 q3)).mono (by omega), ((hG3.setNewD (p := ⟨w.heap.size, 0, none⟩) (by show w.heap.size ≤ w.heap.size; omega) (.int .i64 p3)).setNewD (p := ⟨w.heap.size, 1, none⟩) (by show w.heap.size ≤ w.heap.size; omega) (.int .i64 q3))⟩
  · go_wp2_with fail
    refine (anyFrac_any g _ _ hc2 (by omega)).mono ?_
    rintro e w4 ⟨p4, q4, rfl, hc4, hg4⟩
    replace xr := box_chg xr hg4 (by omega)
    have hG4 := hG2.trans hg4
    have z4 := hg4.size
    clear hc2 hG2 hg4
    have cr0 := box_cell xr 0 _ rfl
    have fr0 := box_free xr 0
    have cr1 := box_cell xr 1 _ rfl
    have fr1 := box_free xr 1
    have lr := lt_of_block xr
    have y4 := store_two xr (.int .i64 p4) (.int .i64 q4)
    have e0 := box_cell y4 0 _ rfl
    have e1 := box_cell y4 1 _ rfl
    go_wp2
    refine bodyPost_ret (v := .agg #[.int .i64 p4, .int .i64 q4]) (by simp [results, Try.results131, go_sem, e0, e1]) rfl ⟨p4, q4, rfl, ((hc4.far (p := ⟨w.heap.size, 0, none⟩) (by show g < w.heap.size; omega) (.int .i64 p4)).far (p := ⟨w.heap.size, 1, none⟩) (by show g < w.heap.size; omega) (.int .i64 q4)).mono (by omega), ((hG4.setNewD (p := ⟨w.heap.size, 0, none⟩) (by show w.heap.size ≤ w.heap.size; omega) (.int .i64 p4)).setNewD (p := ⟨w.heap.size, 1, none⟩) (by show w.heap.size ≤ w.heap.size; omega) (.int .i64 q4))⟩

set_option maxRecDepth 100000 in
set_option maxHeartbeats 2000000 in
theorem chance_any (g L : Nat) (w : World) (h : Cur w g L) (hL : L ≤ 792000) :
    Calls Try.prog 148 #[.pointer (some ⟨g, 0, none⟩)] w (DTwo g (L + 4) w) := by
  have hlt := h.lt
  have hc0 := h
  have hG0 := Chg.refl g (g + 1) w
  clear h
  go_enter Try.func148, Try.ntmps148
  go_wp2_with fail
  have xr := box_new w #[.int .i64 0, .int .i64 0] 28
  have hc1 := hc0.below (below_new w (.cells #[.int .i64 0, .int .i64 0] 28))
  have hG1 := hG0.alloc (.cells #[.int .i64 0, .int .i64 0] 28)
  have z1 : w.heap.size + 1 ≤ (w.alloc (.cells #[.int .i64 0, .int .i64 0] 28)).heap.size := by simp
  clear hc0 hG0
  generalize w.alloc (.cells #[.int .i64 0, .int .i64 0] 28) = u1 at *
  refine (pick_any g _ _ _ hc1 (by omega) (by omega)).mono ?_
  rintro e w2 ⟨v2, rfl, v2l, v2u, hc2, hg2⟩
  replace xr := box_chg xr hg2 (by omega)
  have hG2 := hG1.trans hg2
  have z2 := hg2.size
  clear hc1 hG1 hg2
  replace v2u : v2 ≤ 11 := by simpa using v2u
  go_wp2_with fail
  refine (pick_any g _ _ _ hc2 (by omega) (by omega)).mono ?_
  rintro e w3 ⟨v3, rfl, v3l, v3u, hc3, hg3⟩
  replace xr := box_chg xr hg3 (by omega)
  have hG3 := hG2.trans hg3
  have z3 := hg3.size
  clear hc2 hG2 hg3
  replace v3u : v3 ≤ 1 + v2 + 1 - 1 := by split at v3u <;> omega
  go_wp2_with fail
  refine (fMake_any _ _ _ (by omega) (by omega) (by omega) (by omega)).mono ?_
  rintro e w4 ⟨rfl, hb4⟩
  replace xr := box_below xr hb4
  have hc4 := hc3.below hb4
  have hG4 := hG3.then_ hb4
  have z4 := hb4.size
  clear hc3 hG3 hb4
  obtain ⟨f4, hf4⟩ : ∃ x, fN (redO (v3) (1 + v2)) = x := ⟨_, rfl⟩
  obtain ⟨d4, hd4⟩ : ∃ x, fD (redO (v3) (1 + v2)) = x := ⟨_, rfl⟩
  obtain ⟨b4, hb4⟩ : ∃ x, fB (redO (v3) (1 + v2)) = x := ⟨_, rfl⟩
  rw [hf4, hd4, hb4]
  clear hf4 hd4 hb4
  have cr0 := box_cell xr 0 _ rfl
  have fr0 := box_free xr 0
  have cr1 := box_cell xr 1 _ rfl
  have fr1 := box_free xr 1
  have lr := lt_of_block xr
  have y4 := store_two xr (.int .i64 f4) (.int .i64 d4)
  replace y4 := box_below y4 (below_new _ (.cells #[.int .i64 f4, .int .i64 d4] 28))
  have e0 := box_cell y4 0 _ rfl
  have e1 := box_cell y4 1 _ rfl
  go_wp2
  refine bodyPost_ret (v := .agg #[.int .i64 f4, .int .i64 d4]) (by simp [results, Try.results148, go_sem, e0, e1]) rfl ⟨f4, d4, rfl, (((hc4.far (p := ⟨w.heap.size, 0, none⟩) (by show g < w.heap.size; omega) (.int .i64 f4)).far (p := ⟨w.heap.size, 1, none⟩) (by show g < w.heap.size; omega) (.int .i64 d4)).below (below_new _ (.cells #[.int .i64 f4, .int .i64 d4] 28))).mono (by omega), (((hG4.setNewD (p := ⟨w.heap.size, 0, none⟩) (by show w.heap.size ≤ w.heap.size; omega) (.int .i64 f4)).setNewD (p := ⟨w.heap.size, 1, none⟩) (by show w.heap.size ≤ w.heap.size; omega) (.int .i64 d4)).alloc (.cells #[.int .i64 f4, .int .i64 d4] 28))⟩

set_option maxRecDepth 100000 in
set_option maxHeartbeats 2000000 in
theorem anyChance_any (g L : Nat) (w : World) (h : Cur w g L) (hL : L ≤ 791000) :
    Calls Try.prog 103 #[.pointer (some ⟨g, 0, none⟩)] w (DTwo g (L + 8) w) := by
  have hlt := h.lt
  have hc0 := h
  have hG0 := Chg.refl g (g + 1) w
  clear h
  go_enter Try.func103, Try.ntmps103
  go_wp2_with fail
  have xr := box_new w #[.int .i64 0, .int .i64 0] 28
  have hc1 := hc0.below (below_new w (.cells #[.int .i64 0, .int .i64 0] 28))
  have hG1 := hG0.alloc (.cells #[.int .i64 0, .int .i64 0] 28)
  have z1 : w.heap.size + 1 ≤ (w.alloc (.cells #[.int .i64 0, .int .i64 0] 28)).heap.size := by simp
  clear hc0 hG0
  generalize w.alloc (.cells #[.int .i64 0, .int .i64 0] 28) = u1 at *
  refine (one_any g _ _ _ hc1 (by omega) (by omega)).mono ?_
  rintro e w2 ⟨b2, rfl, hc2, hg2⟩
  replace xr := box_chg xr hg2 (by omega)
  have hG2 := hG1.trans hg2
  have z2 := hg2.size
  clear hc1 hG1 hg2
  cases b2
  · go_wp2_with fail
    refine (chance_any g _ _ hc2 (by omega)).mono ?_
    rintro e w3 ⟨p3, q3, rfl, hc3, hg3⟩
    replace xr := box_chg xr hg3 (by omega)
    have hG3 := hG2.trans hg3
    have z3 := hg3.size
    clear hc2 hG2 hg3
    have cr0 := box_cell xr 0 _ rfl
    have fr0 := box_free xr 0
    have cr1 := box_cell xr 1 _ rfl
    have fr1 := box_free xr 1
    have lr := lt_of_block xr
    have y4 := store_two xr (.int .i64 p3) (.int .i64 q3)
    have e0 := box_cell y4 0 _ rfl
    have e1 := box_cell y4 1 _ rfl
    go_wp2
    refine bodyPost_ret (v := .agg #[.int .i64 p3, .int .i64 q3]) (by simp [results, Try.results103, go_sem, e0, e1]) rfl ⟨p3, q3, rfl, ((hc3.far (p := ⟨w.heap.size, 0, none⟩) (by show g < w.heap.size; omega) (.int .i64 p3)).far (p := ⟨w.heap.size, 1, none⟩) (by show g < w.heap.size; omega) (.int .i64 q3)).mono (by omega), ((hG3.setNewD (p := ⟨w.heap.size, 0, none⟩) (by show w.heap.size ≤ w.heap.size; omega) (.int .i64 p3)).setNewD (p := ⟨w.heap.size, 1, none⟩) (by show w.heap.size ≤ w.heap.size; omega) (.int .i64 q3))⟩
  · go_wp2_with fail
    refine (anyFrac_any g _ _ hc2 (by omega)).mono ?_
    rintro e w4 ⟨p4, q4, rfl, hc4, hg4⟩
    replace xr := box_chg xr hg4 (by omega)
    have hG4 := hG2.trans hg4
    have z4 := hg4.size
    clear hc2 hG2 hg4
    have cr0 := box_cell xr 0 _ rfl
    have fr0 := box_free xr 0
    have cr1 := box_cell xr 1 _ rfl
    have fr1 := box_free xr 1
    have lr := lt_of_block xr
    have y4 := store_two xr (.int .i64 p4) (.int .i64 q4)
    have e0 := box_cell y4 0 _ rfl
    have e1 := box_cell y4 1 _ rfl
    go_wp2
    refine bodyPost_ret (v := .agg #[.int .i64 p4, .int .i64 q4]) (by simp [results, Try.results103, go_sem, e0, e1]) rfl ⟨p4, q4, rfl, ((hc4.far (p := ⟨w.heap.size, 0, none⟩) (by show g < w.heap.size; omega) (.int .i64 p4)).far (p := ⟨w.heap.size, 1, none⟩) (by show g < w.heap.size; omega) (.int .i64 q4)).mono (by omega), ((hG4.setNewD (p := ⟨w.heap.size, 0, none⟩) (by show w.heap.size ≤ w.heap.size; omega) (.int .i64 p4)).setNewD (p := ⟨w.heap.size, 1, none⟩) (by show w.heap.size ≤ w.heap.size; omega) (.int .i64 q4))⟩

set_option maxRecDepth 100000 in
set_option maxHeartbeats 2000000 in
theorem sigma_any (g L : Nat) (w : World) (h : Cur w g L) (hL : L ≤ 790000) :
    Calls Try.prog 160 #[.pointer (some ⟨g, 0, none⟩)] w (DTwo g (L + 4) w) := by
  have hlt := h.lt
  have hc0 := h
  have hG0 := Chg.refl g (g + 1) w
  clear h
  go_enter Try.func160, Try.ntmps160
  go_wp2_with fail
  have xr := box_new w #[.int .i64 0, .int .i64 0] 28
  have hc1 := hc0.below (below_new w (.cells #[.int .i64 0, .int .i64 0] 28))
  have hG1 := hG0.alloc (.cells #[.int .i64 0, .int .i64 0] 28)
  have z1 : w.heap.size + 1 ≤ (w.alloc (.cells #[.int .i64 0, .int .i64 0] 28)).heap.size := by simp
  clear hc0 hG0
  generalize w.alloc (.cells #[.int .i64 0, .int .i64 0] 28) = u1 at *
  refine (pick_any g _ _ _ hc1 (by omega) (by omega)).mono ?_
  rintro e w2 ⟨v2, rfl, v2l, v2u, hc2, hg2⟩
  replace xr := box_chg xr hg2 (by omega)
  have hG2 := hG1.trans hg2
  have z2 := hg2.size
  clear hc1 hG1 hg2
  replace v2u : v2 ≤ 39 := by simpa using v2u
  go_wp2_with fail
  refine (pick_any g _ _ _ hc2 (by omega) (by omega)).mono ?_
  rintro e w3 ⟨v3, rfl, v3l, v3u, hc3, hg3⟩
  replace xr := box_chg xr hg3 (by omega)
  have hG3 := hG2.trans hg3
  have z3 := hg3.size
  clear hc2 hG2 hg3
  replace v3u : v3 ≤ 5 := by simpa using v3u
  go_wp2_with fail
  refine (fMake_any _ _ _ (by omega) (by omega) (by omega) (by omega)).mono ?_
  rintro e w4 ⟨rfl, hb4⟩
  replace xr := box_below xr hb4
  have hc4 := hc3.below hb4
  have hG4 := hG3.then_ hb4
  have z4 := hb4.size
  clear hc3 hG3 hb4
  obtain ⟨f4, hf4⟩ : ∃ x, fN (redO (1 + v2) (1 + v3)) = x := ⟨_, rfl⟩
  obtain ⟨d4, hd4⟩ : ∃ x, fD (redO (1 + v2) (1 + v3)) = x := ⟨_, rfl⟩
  obtain ⟨b4, hb4⟩ : ∃ x, fB (redO (1 + v2) (1 + v3)) = x := ⟨_, rfl⟩
  rw [hf4, hd4, hb4]
  clear hf4 hd4 hb4
  have cr0 := box_cell xr 0 _ rfl
  have fr0 := box_free xr 0
  have cr1 := box_cell xr 1 _ rfl
  have fr1 := box_free xr 1
  have lr := lt_of_block xr
  have y4 := store_two xr (.int .i64 f4) (.int .i64 d4)
  replace y4 := box_below y4 (below_new _ (.cells #[.int .i64 f4, .int .i64 d4] 28))
  have e0 := box_cell y4 0 _ rfl
  have e1 := box_cell y4 1 _ rfl
  go_wp2
  refine bodyPost_ret (v := .agg #[.int .i64 f4, .int .i64 d4]) (by simp [results, Try.results160, go_sem, e0, e1]) rfl ⟨f4, d4, rfl, (((hc4.far (p := ⟨w.heap.size, 0, none⟩) (by show g < w.heap.size; omega) (.int .i64 f4)).far (p := ⟨w.heap.size, 1, none⟩) (by show g < w.heap.size; omega) (.int .i64 d4)).below (below_new _ (.cells #[.int .i64 f4, .int .i64 d4] 28))).mono (by omega), (((hG4.setNewD (p := ⟨w.heap.size, 0, none⟩) (by show w.heap.size ≤ w.heap.size; omega) (.int .i64 f4)).setNewD (p := ⟨w.heap.size, 1, none⟩) (by show w.heap.size ≤ w.heap.size; omega) (.int .i64 d4)).alloc (.cells #[.int .i64 f4, .int .i64 d4] 28))⟩

set_option maxRecDepth 100000 in
set_option maxHeartbeats 2000000 in
theorem anySigma_any (g L : Nat) (w : World) (h : Cur w g L) (hL : L ≤ 789000) :
    Calls Try.prog 133 #[.pointer (some ⟨g, 0, none⟩)] w (DTwo g (L + 8) w) := by
  have hlt := h.lt
  have hc0 := h
  have hG0 := Chg.refl g (g + 1) w
  clear h
  go_enter Try.func133, Try.ntmps133
  go_wp2_with fail
  have xr := box_new w #[.int .i64 0, .int .i64 0] 28
  have hc1 := hc0.below (below_new w (.cells #[.int .i64 0, .int .i64 0] 28))
  have hG1 := hG0.alloc (.cells #[.int .i64 0, .int .i64 0] 28)
  have z1 : w.heap.size + 1 ≤ (w.alloc (.cells #[.int .i64 0, .int .i64 0] 28)).heap.size := by simp
  clear hc0 hG0
  generalize w.alloc (.cells #[.int .i64 0, .int .i64 0] 28) = u1 at *
  refine (pick_any g _ _ _ hc1 (by omega) (by omega)).mono ?_
  rintro e w2 ⟨v2, rfl, v2l, v2u, hc2, hg2⟩
  replace xr := box_chg xr hg2 (by omega)
  have hG2 := hG1.trans hg2
  have z2 := hg2.size
  clear hc1 hG1 hg2
  replace v2u : v2 ≤ 23 := by simpa using v2u
  by_cases tv20 : v2 = 0
  · subst tv20
    go_wp2_with fail
    refine (anyFrac_any g _ _ hc2 (by omega)).mono ?_
    rintro e w3 ⟨p3, q3, rfl, hc3, hg3⟩
    replace xr := box_chg xr hg3 (by omega)
    have hG3 := hG2.trans hg3
    have z3 := hg3.size
    clear hc2 hG2 hg3
    have cr0 := box_cell xr 0 _ rfl
    have fr0 := box_free xr 0
    have cr1 := box_cell xr 1 _ rfl
    have fr1 := box_free xr 1
    have lr := lt_of_block xr
    have y4 := store_two xr (.int .i64 p3) (.int .i64 q3)
    have e0 := box_cell y4 0 _ rfl
    have e1 := box_cell y4 1 _ rfl
    go_wp2
    refine bodyPost_ret (v := .agg #[.int .i64 p3, .int .i64 q3]) (by simp [results, Try.results133, go_sem, e0, e1]) rfl ⟨p3, q3, rfl, ((hc3.far (p := ⟨w.heap.size, 0, none⟩) (by show g < w.heap.size; omega) (.int .i64 p3)).far (p := ⟨w.heap.size, 1, none⟩) (by show g < w.heap.size; omega) (.int .i64 q3)).mono (by omega), ((hG3.setNewD (p := ⟨w.heap.size, 0, none⟩) (by show w.heap.size ≤ w.heap.size; omega) (.int .i64 p3)).setNewD (p := ⟨w.heap.size, 1, none⟩) (by show w.heap.size ≤ w.heap.size; omega) (.int .i64 q3))⟩
  · have tv20E : (v2 == 0) = false := by rw [beq_eq_false_iff_ne]; exact tv20
    by_cases tv21 : v2 = 1
    · subst tv21
      go_wp2_with fail
      have xlit4 := box_new w2 #[.int .i64 10000, .int .i64 10001, .int .i64 500, .int .i64 1, .int .i64 0] 3
      replace xr := box_below xr (below_new w2 (.cells #[.int .i64 10000, .int .i64 10001, .int .i64 500, .int .i64 1, .int .i64 0] 3))
      have hc4 := hc2.below (below_new w2 (.cells #[.int .i64 10000, .int .i64 10001, .int .i64 500, .int .i64 1, .int .i64 0] 3))
      have hG4 := hG2.alloc (.cells #[.int .i64 10000, .int .i64 10001, .int .i64 500, .int .i64 1, .int .i64 0] 3)
      have z4 : w2.heap.size + 1 ≤ (w2.alloc (.cells #[.int .i64 10000, .int .i64 10001, .int .i64 500, .int .i64 1, .int .i64 0] 3)).heap.size := by simp
      clear hc2 hG2
      generalize w2.alloc (.cells #[.int .i64 10000, .int .i64 10001, .int .i64 500, .int .i64 1, .int .i64 0] 3) = u4 at *
      have olit4 := own_lit [10000, 10001, 500, 1, 0] xlit4 (by decide)
      clear xlit4
      refine (among_any g _ _ _ _ _ _ (0) (10001) [10000, 10001, 500, 1, 0] _ hc4 (by omega) olit4 (by omega) (by decide) (by decide) (by decide)).mono ?_
      rintro e w5 ⟨v5, rfl, v5l, v5u, hc5, hg5⟩
      replace xr := box_chg xr hg5 (by omega)
      have hG5 := hG4.trans hg5
      have z5 := hg5.size
      clear hc4 hG4 hg5
      clear olit4
      go_wp2_with fail
      have xlit6 := box_new w5 #[.int .i64 1, .int .i64 1, .int .i64 1000, .int .i64 7] 3
      replace xr := box_below xr (below_new w5 (.cells #[.int .i64 1, .int .i64 1, .int .i64 1000, .int .i64 7] 3))
      have hc6 := hc5.below (below_new w5 (.cells #[.int .i64 1, .int .i64 1, .int .i64 1000, .int .i64 7] 3))
      have hG6 := hG5.alloc (.cells #[.int .i64 1, .int .i64 1, .int .i64 1000, .int .i64 7] 3)
      have z6 : w5.heap.size + 1 ≤ (w5.alloc (.cells #[.int .i64 1, .int .i64 1, .int .i64 1000, .int .i64 7] 3)).heap.size := by simp
      clear hc5 hG5
      generalize w5.alloc (.cells #[.int .i64 1, .int .i64 1, .int .i64 1000, .int .i64 7] 3) = u6 at *
      have olit6 := own_lit [1, 1, 1000, 7] xlit6 (by decide)
      clear xlit6
      refine (among_any g _ _ _ _ _ _ (1) (1000) [1, 1, 1000, 7] _ hc6 (by omega) olit6 (by omega) (by decide) (by decide) (by decide)).mono ?_
      rintro e w7 ⟨v7, rfl, v7l, v7u, hc7, hg7⟩
      replace xr := box_chg xr hg7 (by omega)
      have hG7 := hG6.trans hg7
      have z7 := hg7.size
      clear hc6 hG6 hg7
      clear olit6
      go_wp2_with fail
      refine (fMake_any _ _ _ (by omega) (by omega) (by omega) (by omega)).mono ?_
      rintro e w8 ⟨rfl, hb8⟩
      replace xr := box_below xr hb8
      have hc8 := hc7.below hb8
      have hG8 := hG7.then_ hb8
      have z8 := hb8.size
      clear hc7 hG7 hb8
      obtain ⟨f8, hf8⟩ : ∃ x, fN (redO (v5) (v7)) = x := ⟨_, rfl⟩
      obtain ⟨d8, hd8⟩ : ∃ x, fD (redO (v5) (v7)) = x := ⟨_, rfl⟩
      obtain ⟨b8, hb8⟩ : ∃ x, fB (redO (v5) (v7)) = x := ⟨_, rfl⟩
      rw [hf8, hd8, hb8]
      clear hf8 hd8 hb8
      have cr0 := box_cell xr 0 _ rfl
      have fr0 := box_free xr 0
      have cr1 := box_cell xr 1 _ rfl
      have fr1 := box_free xr 1
      have lr := lt_of_block xr
      have y4 := store_two xr (.int .i64 f8) (.int .i64 d8)
      replace y4 := box_below y4 (below_new _ (.cells #[.int .i64 f8, .int .i64 d8] 28))
      have e0 := box_cell y4 0 _ rfl
      have e1 := box_cell y4 1 _ rfl
      go_wp2
      refine bodyPost_ret (v := .agg #[.int .i64 f8, .int .i64 d8]) (by simp [results, Try.results133, go_sem, e0, e1]) rfl ⟨f8, d8, rfl, (((hc8.far (p := ⟨w.heap.size, 0, none⟩) (by show g < w.heap.size; omega) (.int .i64 f8)).far (p := ⟨w.heap.size, 1, none⟩) (by show g < w.heap.size; omega) (.int .i64 d8)).below (below_new _ (.cells #[.int .i64 f8, .int .i64 d8] 28))).mono (by omega), (((hG8.setNewD (p := ⟨w.heap.size, 0, none⟩) (by show w.heap.size ≤ w.heap.size; omega) (.int .i64 f8)).setNewD (p := ⟨w.heap.size, 1, none⟩) (by show w.heap.size ≤ w.heap.size; omega) (.int .i64 d8)).alloc (.cells #[.int .i64 f8, .int .i64 d8] 28))⟩
    · have tv21E : (v2 == 1) = false := by rw [beq_eq_false_iff_ne]; exact tv21
      go_wp2_with fail
      refine (sigma_any g _ _ hc2 (by omega)).mono ?_
      rintro e w9 ⟨p9, q9, rfl, hc9, hg9⟩
      replace xr := box_chg xr hg9 (by omega)
      have hG9 := hG2.trans hg9
      have z9 := hg9.size
      clear hc2 hG2 hg9
      have cr0 := box_cell xr 0 _ rfl
      have fr0 := box_free xr 0
      have cr1 := box_cell xr 1 _ rfl
      have fr1 := box_free xr 1
      have lr := lt_of_block xr
      have y4 := store_two xr (.int .i64 p9) (.int .i64 q9)
      have e0 := box_cell y4 0 _ rfl
      have e1 := box_cell y4 1 _ rfl
      go_wp2
      refine bodyPost_ret (v := .agg #[.int .i64 p9, .int .i64 q9]) (by simp [results, Try.results133, go_sem, e0, e1]) rfl ⟨p9, q9, rfl, ((hc9.far (p := ⟨w.heap.size, 0, none⟩) (by show g < w.heap.size; omega) (.int .i64 p9)).far (p := ⟨w.heap.size, 1, none⟩) (by show g < w.heap.size; omega) (.int .i64 q9)).mono (by omega), ((hG9.setNewD (p := ⟨w.heap.size, 0, none⟩) (by show w.heap.size ≤ w.heap.size; omega) (.int .i64 p9)).setNewD (p := ⟨w.heap.size, 1, none⟩) (by show w.heap.size ≤ w.heap.size; omega) (.int .i64 q9))⟩
end Go.Proofs.Ytfkdmddfadkjoaa
