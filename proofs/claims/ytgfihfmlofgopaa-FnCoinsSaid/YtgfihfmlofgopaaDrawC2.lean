/- Drawn inputs of the coins. -/
import Derived.Test.YtgfihfmlofgopaaDraw
import Derived.Test.YtgfihfmlofgopaaFop
namespace Go.Proofs.Ytgfihfmlofgopaa
open Go.RowKit

def DrawExpBoundsP (w : World) (e : Ending) (w' : World) : Prop := ∃ a0 b0 a1 : Int, e = .returned (.tuple #[.agg #[.int .i64 a0, .int .i64 b0], .int .i64 a1]) ∧ Below w.heap.size w w'
set_option maxRecDepth 100000 in
set_option maxHeartbeats 2000000 in
theorem drawExpBounds_any (A : Option Addr) (n c : Nat) (w : World) (hb : Byt w A n) (hn : n ≤ 1048576) :
    Calls Try.prog 19 #[.slice A n c] w (DrawExpBoundsP w) := by
  have hz0 : w.heap.size ≤ w.heap.size := Nat.le_refl _
  have hq0 := Below.refl w.heap.size w
  have hbb := hb
  go_enter Try.func19, Try.ntmps19
  go_wp2_with fail
  have xr0 := box_new w #[.int .i64 0, .int .i64 0] 27
  have y0 : (w.alloc (.cells #[.int .i64 0, .int .i64 0] 27)).heap.size = w.heap.size + 1 := by simp
  have hq1 := hq0.trans ((below_new w (.cells #[.int .i64 0, .int .i64 0] 27)).mono hq0.size)
  generalize w.alloc (.cells #[.int .i64 0, .int .i64 0] 27) = u900 at *
  have xc := box_new u900 #[.slice A n c, .int .i64 0, .int .u64 0] 52
  replace xr0 := box_below xr0 (below_new u900 (.cells #[.slice A n c, .int .i64 0, .int .u64 0] 52))
  rw [y0] at xc
  have y1 : (u900.alloc (.cells #[.slice A n c, .int .i64 0, .int .u64 0] 52)).heap.size = w.heap.size + 1 + 1 := by simp [y0]
  have hG0 : Chg (w.heap.size + 1) (w.heap.size + 1 + 1) w (u900.alloc (.cells #[.slice A n c, .int .i64 0, .int .u64 0] 52)) := Chg.of_below (hq1.trans ((below_new u900 (.cells #[.slice A n c, .int .i64 0, .int .u64 0] 52)).mono hq1.size))
  have hb9 : ∀ b, b < w.heap.size → (u900.alloc (.cells #[.slice A n c, .int .i64 0, .int .u64 0] 52)).heap[b]? = w.heap[b]? := fun b hb => hG0.block b hb (.inl (by omega))
  generalize u900.alloc (.cells #[.slice A n c, .int .i64 0, .int .u64 0] 52) = u990 at *
  have hc0 := cur_new xc (by omega) hbb hb9 hn
  clear hb9 hbb xc
  clear y0
  have z990 : w.heap.size + 1 + 1 = u990.heap.size := y1.symm
  clear y1
  obtain ⟨g, hg0⟩ : ∃ g, w.heap.size + 1 = g := ⟨_, rfl⟩
  rw [hg0] at hc0 hG0 z990
  rw [hg0]
  refine (anyChance_any g _ _ hc0 (by omega)).mono ?_
  rintro e w1 ⟨p1, q1, rfl, hc1, hg1⟩
  replace xr0 := box_chg xr0 hg1 (by omega)
  have hG1 := hG0.trans hg1
  have z1 := hg1.size
  clear hc0 hG0 hg1
  go_wp2_with fail
  refine (pick_any g _ _ _ hc1 (by omega) (by omega)).mono ?_
  rintro e w2 ⟨v2, rfl, v2l, v2u, hc2, hg2⟩
  replace xr0 := box_chg xr0 hg2 (by omega)
  have hG2 := hG1.trans hg2
  have z2 := hg2.size
  clear hc1 hG1 hg2
  replace v2u : v2 ≤ 7 := by simpa using v2u
  have lr0 := lt_of_block xr0
  have cr00 := box_cell xr0 0 _ rfl
  have cr01 := box_cell xr0 1 _ rfl
  have fr00 := box_free xr0 0
  have fr01 := box_free xr0 1
  have qq0 := store_two xr0 (.int .i64 p1) (.int .i64 q1)
  have qq0' := qq0
  have e00 := box_cell qq0' 0 _ rfl
  have e01 := box_cell qq0' 1 _ rfl
  go_wp2
  refine bodyPost_ret (v := .tuple #[.agg #[.int .i64 p1, .int .i64 q1], .int .i64 v2]) (by simp [results, Try.results19, go_sem, e00, e01]) rfl ⟨p1, q1, (v2), rfl, Chg.to_below (by omega) ((hG2.setNewD (p := ⟨w.heap.size, 0, none⟩) (by show w.heap.size ≤ w.heap.size; omega) (.int .i64 p1)).setNewD (p := ⟨w.heap.size, 1, none⟩) (by show w.heap.size ≤ w.heap.size; omega) (.int .i64 q1))⟩

def DrawCoinOfP (w : World) (e : Ending) (w' : World) : Prop := ∃ a0 b0 a1 b1 : Int, e = .returned (.tuple #[.agg #[.int .i64 a0, .int .i64 b0], .agg #[.int .i64 a1, .int .i64 b1]]) ∧ Below w.heap.size w w'
set_option maxRecDepth 100000 in
set_option maxHeartbeats 2000000 in
theorem drawCoinOf_any (A : Option Addr) (n c : Nat) (w : World) (hb : Byt w A n) (hn : n ≤ 1048576) :
    Calls Try.prog 5 #[.slice A n c] w (DrawCoinOfP w) := by
  have hz0 : w.heap.size ≤ w.heap.size := Nat.le_refl _
  have hq0 := Below.refl w.heap.size w
  have hbb := hb
  go_enter Try.func5, Try.ntmps5
  go_wp2_with fail
  have xr0 := box_new w #[.int .i64 0, .int .i64 0] 25
  have y0 : (w.alloc (.cells #[.int .i64 0, .int .i64 0] 25)).heap.size = w.heap.size + 1 := by simp
  have hq1 := hq0.trans ((below_new w (.cells #[.int .i64 0, .int .i64 0] 25)).mono hq0.size)
  generalize w.alloc (.cells #[.int .i64 0, .int .i64 0] 25) = u900 at *
  have xr1 := box_new u900 #[.int .i64 0, .int .i64 0] 27
  replace xr0 := box_below xr0 (below_new u900 (.cells #[.int .i64 0, .int .i64 0] 27))
  have y1 : (u900.alloc (.cells #[.int .i64 0, .int .i64 0] 27)).heap.size = w.heap.size + 1 + 1 := by simp [y0]
  rw [y0] at xr1
  have hq2 := hq1.trans ((below_new u900 (.cells #[.int .i64 0, .int .i64 0] 27)).mono hq1.size)
  generalize u900.alloc (.cells #[.int .i64 0, .int .i64 0] 27) = u901 at *
  have xc := box_new u901 #[.slice A n c, .int .i64 0, .int .u64 0] 52
  replace xr0 := box_below xr0 (below_new u901 (.cells #[.slice A n c, .int .i64 0, .int .u64 0] 52))
  replace xr1 := box_below xr1 (below_new u901 (.cells #[.slice A n c, .int .i64 0, .int .u64 0] 52))
  rw [y1] at xc
  have y2 : (u901.alloc (.cells #[.slice A n c, .int .i64 0, .int .u64 0] 52)).heap.size = w.heap.size + 1 + 1 + 1 := by simp [y1]
  have hG0 : Chg (w.heap.size + 1 + 1) (w.heap.size + 1 + 1 + 1) w (u901.alloc (.cells #[.slice A n c, .int .i64 0, .int .u64 0] 52)) := Chg.of_below (hq2.trans ((below_new u901 (.cells #[.slice A n c, .int .i64 0, .int .u64 0] 52)).mono hq2.size))
  have hb9 : ∀ b, b < w.heap.size → (u901.alloc (.cells #[.slice A n c, .int .i64 0, .int .u64 0] 52)).heap[b]? = w.heap[b]? := fun b hb => hG0.block b hb (.inl (by omega))
  generalize u901.alloc (.cells #[.slice A n c, .int .i64 0, .int .u64 0] 52) = u990 at *
  have hc0 := cur_new xc (by omega) hbb hb9 hn
  clear hb9 hbb xc
  clear y0 y1
  have z990 : w.heap.size + 1 + 1 + 1 = u990.heap.size := y2.symm
  clear y2
  obtain ⟨g, hg0⟩ : ∃ g, w.heap.size + 1 + 1 = g := ⟨_, rfl⟩
  rw [hg0] at hc0 hG0 z990
  rw [hg0]
  refine (anyStream_any g _ _ hc0 (by omega)).mono ?_
  rintro e w1 ⟨p1, q1, rfl, hc1, hg1⟩
  replace xr0 := box_chg xr0 hg1 (by omega)
  replace xr1 := box_chg xr1 hg1 (by omega)
  have hG1 := hG0.trans hg1
  have z1 := hg1.size
  clear hc0 hG0 hg1
  go_wp2_with fail
  refine (anyChance_any g _ _ hc1 (by omega)).mono ?_
  rintro e w2 ⟨p2, q2, rfl, hc2, hg2⟩
  replace xr0 := box_chg xr0 hg2 (by omega)
  replace xr1 := box_chg xr1 hg2 (by omega)
  have hG2 := hG1.trans hg2
  have z2 := hg2.size
  clear hc1 hG1 hg2
  have lr0 := lt_of_block xr0
  have cr00 := box_cell xr0 0 _ rfl
  have cr01 := box_cell xr0 1 _ rfl
  have fr00 := box_free xr0 0
  have fr01 := box_free xr0 1
  have lr1 := lt_of_block xr1
  have cr10 := box_cell xr1 0 _ rfl
  have cr11 := box_cell xr1 1 _ rfl
  have fr10 := box_free xr1 0
  have fr11 := box_free xr1 1
  have qq0 := store_two xr0 (.int .i64 p1) (.int .i64 q1)
  have qq0' := (box_off (box_off qq0 (p := ⟨w.heap.size + 1, 0, none⟩) (by show w.heap.size ≠ w.heap.size + 1; omega) (.int .i64 p2)) (p := ⟨w.heap.size + 1, 1, none⟩) (by show w.heap.size ≠ w.heap.size + 1; omega) (.int .i64 q2))
  have e00 := box_cell qq0' 0 _ rfl
  have e01 := box_cell qq0' 1 _ rfl
  have qq1 := store_two (box_off (box_off xr1 (p := ⟨w.heap.size, 0, none⟩) (by show w.heap.size + 1 ≠ w.heap.size; omega) (.int .i64 p1)) (p := ⟨w.heap.size, 1, none⟩) (by show w.heap.size + 1 ≠ w.heap.size; omega) (.int .i64 q1)) (.int .i64 p2) (.int .i64 q2)
  have qq1' := qq1
  have e10 := box_cell qq1' 0 _ rfl
  have e11 := box_cell qq1' 1 _ rfl
  go_wp2
  refine bodyPost_ret (v := .tuple #[.agg #[.int .i64 p1, .int .i64 q1], .agg #[.int .i64 p2, .int .i64 q2]]) (by simp [results, Try.results5, go_sem, e00, e01, e10, e11]) rfl ⟨p1, q1, p2, q2, rfl, Chg.to_below (by omega) ((((hG2.setNewD (p := ⟨w.heap.size, 0, none⟩) (by show w.heap.size ≤ w.heap.size; omega) (.int .i64 p1)).setNewD (p := ⟨w.heap.size, 1, none⟩) (by show w.heap.size ≤ w.heap.size; omega) (.int .i64 q1)).setNewD (p := ⟨w.heap.size + 1, 0, none⟩) (by show w.heap.size ≤ w.heap.size + 1; omega) (.int .i64 p2)).setNewD (p := ⟨w.heap.size + 1, 1, none⟩) (by show w.heap.size ≤ w.heap.size + 1; omega) (.int .i64 q2))⟩

def DrawCoinChancesP (w : World) (e : Ending) (w' : World) : Prop := ∃ a0 b0 a1 : Int, e = .returned (.tuple #[.agg #[.int .i64 a0, .int .i64 b0], .int .i64 a1]) ∧ Below w.heap.size w w'
set_option maxRecDepth 100000 in
set_option maxHeartbeats 2000000 in
theorem drawCoinChances_any (A : Option Addr) (n c : Nat) (w : World) (hb : Byt w A n) (hn : n ≤ 1048576) :
    Calls Try.prog 14 #[.slice A n c] w (DrawCoinChancesP w) := by
  have hz0 : w.heap.size ≤ w.heap.size := Nat.le_refl _
  have hq0 := Below.refl w.heap.size w
  have hbb := hb
  go_enter Try.func14, Try.ntmps14
  go_wp2_with fail
  have xr0 := box_new w #[.int .i64 0, .int .i64 0] 27
  have y0 : (w.alloc (.cells #[.int .i64 0, .int .i64 0] 27)).heap.size = w.heap.size + 1 := by simp
  have hq1 := hq0.trans ((below_new w (.cells #[.int .i64 0, .int .i64 0] 27)).mono hq0.size)
  generalize w.alloc (.cells #[.int .i64 0, .int .i64 0] 27) = u900 at *
  have xc := box_new u900 #[.slice A n c, .int .i64 0, .int .u64 0] 52
  replace xr0 := box_below xr0 (below_new u900 (.cells #[.slice A n c, .int .i64 0, .int .u64 0] 52))
  rw [y0] at xc
  have y1 : (u900.alloc (.cells #[.slice A n c, .int .i64 0, .int .u64 0] 52)).heap.size = w.heap.size + 1 + 1 := by simp [y0]
  have hG0 : Chg (w.heap.size + 1) (w.heap.size + 1 + 1) w (u900.alloc (.cells #[.slice A n c, .int .i64 0, .int .u64 0] 52)) := Chg.of_below (hq1.trans ((below_new u900 (.cells #[.slice A n c, .int .i64 0, .int .u64 0] 52)).mono hq1.size))
  have hb9 : ∀ b, b < w.heap.size → (u900.alloc (.cells #[.slice A n c, .int .i64 0, .int .u64 0] 52)).heap[b]? = w.heap[b]? := fun b hb => hG0.block b hb (.inl (by omega))
  generalize u900.alloc (.cells #[.slice A n c, .int .i64 0, .int .u64 0] 52) = u990 at *
  have hc0 := cur_new xc (by omega) hbb hb9 hn
  clear hb9 hbb xc
  clear y0
  have z990 : w.heap.size + 1 + 1 = u990.heap.size := y1.symm
  clear y1
  obtain ⟨g, hg0⟩ : ∃ g, w.heap.size + 1 = g := ⟨_, rfl⟩
  rw [hg0] at hc0 hG0 z990
  rw [hg0]
  refine (anyChance_any g _ _ hc0 (by omega)).mono ?_
  rintro e w1 ⟨p1, q1, rfl, hc1, hg1⟩
  replace xr0 := box_chg xr0 hg1 (by omega)
  have hG1 := hG0.trans hg1
  have z1 := hg1.size
  clear hc0 hG0 hg1
  go_wp2_with fail
  refine (pick_any g _ _ _ hc1 (by omega) (by omega)).mono ?_
  rintro e w2 ⟨v2, rfl, v2l, v2u, hc2, hg2⟩
  replace xr0 := box_chg xr0 hg2 (by omega)
  have hG2 := hG1.trans hg2
  have z2 := hg2.size
  clear hc1 hG1 hg2
  replace v2u : v2 ≤ 9 := by simpa using v2u
  go_wp2_with fail
  refine (pick_any g _ _ _ hc2 (by omega) (by omega)).mono ?_
  rintro e w3 ⟨v3, rfl, v3l, v3u, hc3, hg3⟩
  replace xr0 := box_chg xr0 hg3 (by omega)
  have hG3 := hG2.trans hg3
  have z3 := hg3.size
  clear hc2 hG2 hg3
  replace v3u : v3 ≤ 11 := by simpa using v3u
  obtain ⟨q9, hq9⟩ : ∃ x, v3.tdiv 11 = x := ⟨_, rfl⟩
  have hq8 : 0 ≤ q9 ∧ q9 ≤ 1 := by rw [← hq9, Int.tdiv_eq_ediv_of_nonneg (by omega)]; omega
  obtain ⟨hq80, hq81⟩ := hq8
  have lr0 := lt_of_block xr0
  have cr00 := box_cell xr0 0 _ rfl
  have cr01 := box_cell xr0 1 _ rfl
  have fr00 := box_free xr0 0
  have fr01 := box_free xr0 1
  have qq0 := store_two xr0 (.int .i64 p1) (.int .i64 q1)
  have qq0' := qq0
  have e00 := box_cell qq0' 0 _ rfl
  have e01 := box_cell qq0' 1 _ rfl
  go_wp2
  refine bodyPost_ret (v := .tuple #[.agg #[.int .i64 p1, .int .i64 q1], .int .i64 (v2 - q9)]) (by simp [results, Try.results14, go_sem, e00, e01]) rfl ⟨p1, q1, ((v2 - q9)), rfl, Chg.to_below (by omega) ((hG3.setNewD (p := ⟨w.heap.size, 0, none⟩) (by show w.heap.size ≤ w.heap.size; omega) (.int .i64 p1)).setNewD (p := ⟨w.heap.size, 1, none⟩) (by show w.heap.size ≤ w.heap.size; omega) (.int .i64 q1))⟩

theorem set_other2 {w : World} {g a : Nat} {o : Obj} {u v : Value} (h : w.heap[a]? = some o) (hne : a ≠ g) : ((w.setCell ⟨g, 0, none⟩ u).setCell ⟨g, 1, none⟩ v).heap[a]? = some o := by
  rw [Below.heap_setCell _ ⟨g, 1, none⟩ v a hne, Below.heap_setCell _ ⟨g, 0, none⟩ u a hne]; exact h

def DrawExpCoinP (w : World) (e : Ending) (w' : World) : Prop := ∃ a0 b0 a1 b1 : Int, e = .returned (.tuple #[.agg #[.int .i64 a0, .int .i64 b0], .agg #[.int .i64 a1, .int .i64 b1]]) ∧ Below w.heap.size w w'
set_option maxRecDepth 100000 in
set_option maxHeartbeats 2000000 in
theorem drawExpCoin_any (A : Option Addr) (n c : Nat) (w : World) (hb : Byt w A n) (hn : n ≤ 1048576) :
    Calls Try.prog 8 #[.slice A n c] w (DrawExpCoinP w) := by
  have hz0 : w.heap.size ≤ w.heap.size := Nat.le_refl _
  have hq0 := Below.refl w.heap.size w
  have hbb := hb
  go_enter Try.func8, Try.ntmps8
  go_wp2_with fail
  have xr0 := box_new w #[.int .i64 0, .int .i64 0] 25
  have y0 : (w.alloc (.cells #[.int .i64 0, .int .i64 0] 25)).heap.size = w.heap.size + 1 := by simp
  have hq1 := hq0.trans ((below_new w (.cells #[.int .i64 0, .int .i64 0] 25)).mono hq0.size)
  generalize w.alloc (.cells #[.int .i64 0, .int .i64 0] 25) = u900 at *
  have xr1 := box_new u900 #[.int .i64 0, .int .i64 0] 27
  replace xr0 := box_below xr0 (below_new u900 (.cells #[.int .i64 0, .int .i64 0] 27))
  have y1 : (u900.alloc (.cells #[.int .i64 0, .int .i64 0] 27)).heap.size = w.heap.size + 1 + 1 := by simp [y0]
  rw [y0] at xr1
  have hq2 := hq1.trans ((below_new u900 (.cells #[.int .i64 0, .int .i64 0] 27)).mono hq1.size)
  generalize u900.alloc (.cells #[.int .i64 0, .int .i64 0] 27) = u901 at *
  have xc := box_new u901 #[.slice A n c, .int .i64 0, .int .u64 0] 52
  replace xr0 := box_below xr0 (below_new u901 (.cells #[.slice A n c, .int .i64 0, .int .u64 0] 52))
  replace xr1 := box_below xr1 (below_new u901 (.cells #[.slice A n c, .int .i64 0, .int .u64 0] 52))
  rw [y1] at xc
  have y2 : (u901.alloc (.cells #[.slice A n c, .int .i64 0, .int .u64 0] 52)).heap.size = w.heap.size + 1 + 1 + 1 := by simp [y1]
  have hG0 : Chg (w.heap.size + 1 + 1) (w.heap.size + 1 + 1 + 1) w (u901.alloc (.cells #[.slice A n c, .int .i64 0, .int .u64 0] 52)) := Chg.of_below (hq2.trans ((below_new u901 (.cells #[.slice A n c, .int .i64 0, .int .u64 0] 52)).mono hq2.size))
  have hb9 : ∀ b, b < w.heap.size → (u901.alloc (.cells #[.slice A n c, .int .i64 0, .int .u64 0] 52)).heap[b]? = w.heap[b]? := fun b hb => hG0.block b hb (.inl (by omega))
  generalize u901.alloc (.cells #[.slice A n c, .int .i64 0, .int .u64 0] 52) = u990 at *
  have hc0 := cur_new xc (by omega) hbb hb9 hn
  clear hb9 hbb xc
  clear y0 y1
  have z990 : w.heap.size + 1 + 1 + 1 = u990.heap.size := y2.symm
  clear y2
  obtain ⟨g, hg0⟩ : ∃ g, w.heap.size + 1 + 1 = g := ⟨_, rfl⟩
  rw [hg0] at hc0 hG0 z990
  rw [hg0]
  refine (anyStream_any g _ _ hc0 (by omega)).mono ?_
  rintro e w1 ⟨p1, q1, rfl, hc1, hg1⟩
  replace xr0 := box_chg xr0 hg1 (by omega)
  replace xr1 := box_chg xr1 hg1 (by omega)
  have hG1 := hG0.trans hg1
  have z1 := hg1.size
  clear hc0 hG0 hg1
  go_wp2_with fail
  have xs := box_new w1 #[.int .i64 p1, .int .i64 q1] 25
  replace xr0 := box_below xr0 (below_new w1 (.cells #[.int .i64 p1, .int .i64 q1] 25))
  replace xr1 := box_below xr1 (below_new w1 (.cells #[.int .i64 p1, .int .i64 q1] 25))
  have hc2 := hc1.below (below_new w1 (.cells #[.int .i64 p1, .int .i64 q1] 25))
  have hG2 := hG1.alloc (.cells #[.int .i64 p1, .int .i64 q1] 25)
  have z2 : w1.heap.size + 1 ≤ (w1.alloc (.cells #[.int .i64 p1, .int .i64 q1] 25)).heap.size := by simp
  clear hc1 hG1
  generalize w1.alloc (.cells #[.int .i64 p1, .int .i64 q1] 25) = u2 at *
  refine (pick_any g _ _ _ hc2 (by omega) (by omega)).mono ?_
  rintro e w3 ⟨v3, rfl, v3l, v3u, hc3, hg3⟩
  replace xr0 := box_chg xr0 hg3 (by omega)
  replace xr1 := box_chg xr1 hg3 (by omega)
  replace xs := box_chg xs hg3 (by omega)
  have hG3 := hG2.trans hg3
  have z3 := hg3.size
  clear hc2 hG2 hg3
  replace v3u : v3 ≤ 59 := by simpa using v3u
  go_wp2_with fail
  refine (pick_any g _ _ _ hc3 (by omega) (by omega)).mono ?_
  rintro e w4 ⟨v4, rfl, v4l, v4u, hc4, hg4⟩
  replace xr0 := box_chg xr0 hg4 (by omega)
  replace xr1 := box_chg xr1 hg4 (by omega)
  replace xs := box_chg xs hg4 (by omega)
  have hG4 := hG3.trans hg4
  have z4 := hg4.size
  clear hc3 hG3 hg4
  replace v4u : v4 ≤ 11 := by simpa using v4u
  go_wp2_with fail
  refine (fMake_any _ _ _ (by omega) (by omega) (by omega) (by omega)).mono ?_
  rintro e w5 ⟨rfl, hb5⟩
  replace xr0 := box_below xr0 hb5
  replace xr1 := box_below xr1 hb5
  replace xs := box_below xs hb5
  have hc5 := hc4.below hb5
  have hG5 := hG4.then_ hb5
  have z5 := hb5.size
  clear hc4 hG4 hb5
  obtain ⟨f5, hf5⟩ : ∃ x, fN (redO (v3) (1 + v4)) = x := ⟨_, rfl⟩
  obtain ⟨d5, hd5⟩ : ∃ x, fD (redO (v3) (1 + v4)) = x := ⟨_, rfl⟩
  obtain ⟨b5, hb5⟩ : ∃ x, fB (redO (v3) (1 + v4)) = x := ⟨_, rfl⟩
  rw [hf5, hd5, hb5]
  clear hf5 hd5 hb5
  go_wp2_with fail
  have xx := box_new w5 #[.int .i64 f5, .int .i64 d5] 27
  replace xr0 := box_below xr0 (below_new w5 (.cells #[.int .i64 f5, .int .i64 d5] 27))
  replace xr1 := box_below xr1 (below_new w5 (.cells #[.int .i64 f5, .int .i64 d5] 27))
  replace xs := box_below xs (below_new w5 (.cells #[.int .i64 f5, .int .i64 d5] 27))
  have hc6 := hc5.below (below_new w5 (.cells #[.int .i64 f5, .int .i64 d5] 27))
  have hG6 := hG5.alloc (.cells #[.int .i64 f5, .int .i64 d5] 27)
  have z6 : w5.heap.size + 1 ≤ (w5.alloc (.cells #[.int .i64 f5, .int .i64 d5] 27)).heap.size := by simp
  clear hc5 hG5
  generalize w5.alloc (.cells #[.int .i64 f5, .int .i64 d5] 27) = u6 at *
  refine (one_any g _ _ _ hc6 (by omega) (by omega)).mono ?_
  rintro e w7 ⟨b7, rfl, hc7, hg7⟩
  replace xr0 := box_chg xr0 hg7 (by omega)
  replace xr1 := box_chg xr1 hg7 (by omega)
  replace xs := box_chg xs hg7 (by omega)
  replace xx := box_chg xx hg7 (by omega)
  have hG7 := hG6.trans hg7
  have z7 := hg7.size
  clear hc6 hG6 hg7
  cases b7
  · have HGq := Lib.hid hG7
    clear hc7 hG7
    go_wp2_with fail
    have ls := lt_of_block xs
    have ds0 := box_cell xs 0 _ rfl
    have ds1 := box_cell xs 1 _ rfl
    have lx := lt_of_block xx
    have dx0 := box_cell xx 0 _ rfl
    have dx1 := box_cell xx 1 _ rfl
    have lr0 := lt_of_block xr0
    have dr00 := box_cell xr0 0 _ rfl
    have dr01 := box_cell xr0 1 _ rfl
    have lr1 := lt_of_block xr1
    have dr10 := box_cell xr1 0 _ rfl
    have dr11 := box_cell xr1 1 _ rfl
    have fr00 := box_free xr0 0
    have fr01 := box_free xr0 1
    have fr10 := box_free xr1 0
    have fr11 := box_free xr1 1
    have nsr0 : w1.heap.size ≠ w.heap.size := by omega
    have nsr1 : w1.heap.size ≠ w.heap.size + 1 := by omega
    have nxr0 : w5.heap.size ≠ w.heap.size := by omega
    have nxr1 : w5.heap.size ≠ w.heap.size + 1 := by omega
    have nr0r1 : w.heap.size ≠ w.heap.size + 1 := by omega
    have nr1r0 : w.heap.size + 1 ≠ w.heap.size := by omega
    have y0 := store_two xr0 (.int .i64 p1) (.int .i64 q1)
    have y1 := set_other2 (u := .int .i64 f5) (v := .int .i64 d5) y0 nr0r1
    have z1 := store_two (set_other2 (u := .int .i64 p1) (v := .int .i64 q1) xr1 nr1r0) (.int .i64 f5) (.int .i64 d5)
    have HBB := Lib.hid (Chg.to_below (by omega) ((((HGq.out.setNewD (p := ⟨w.heap.size, 0, none⟩) (by show w.heap.size ≤ w.heap.size; omega) (.int .i64 p1)).setNewD (p := ⟨w.heap.size, 1, none⟩) (by show w.heap.size ≤ w.heap.size; omega) (.int .i64 q1)).setNewD (p := ⟨w.heap.size + 1, 0, none⟩) (by show w.heap.size ≤ w.heap.size + 1; omega) (.int .i64 f5)).setNewD (p := ⟨w.heap.size + 1, 1, none⟩) (by show w.heap.size ≤ w.heap.size + 1; omega) (.int .i64 d5)))
    go_region
    have e00 := box_cell y1 0 _ rfl
    have e01 := box_cell y1 1 _ rfl
    have e10 := box_cell z1 0 _ rfl
    have e11 := box_cell z1 1 _ rfl
    go_wp2
    exact bodyPost_ret (v := .tuple #[.agg #[.int .i64 p1, .int .i64 q1], .agg #[.int .i64 f5, .int .i64 d5]]) (by simp [results, Try.results8, go_sem, e00, e01, e10, e11]) rfl ⟨p1, q1, f5, d5, rfl, HBB.out.drew⟩
  · go_wp2_with fail
    refine (anyFrac_any g _ _ hc7 (by omega)).mono ?_
    rintro e w8 ⟨p8, q8, rfl, hc8, hg8⟩
    replace xr0 := box_chg xr0 hg8 (by omega)
    replace xr1 := box_chg xr1 hg8 (by omega)
    replace xs := box_chg xs hg8 (by omega)
    replace xx := box_chg xx hg8 (by omega)
    have hG8 := hG7.trans hg8
    have z8 := hg8.size
    clear hc7 hG7 hg8
    have cx0 := box_cell xx 0 _ rfl
    have fx0 := box_free xx 0
    have cx1 := box_cell xx 1 _ rfl
    have fx1 := box_free xx 1
    have qx := store_two xx (.int .i64 p8) (.int .i64 q8)
    have hs := box_off (box_off xs (p := ⟨w5.heap.size, 0, none⟩) (by show w1.heap.size ≠ w5.heap.size; omega) (.int .i64 p8)) (p := ⟨w5.heap.size, 1, none⟩) (by show w1.heap.size ≠ w5.heap.size; omega) (.int .i64 q8)
    have hr0 := box_off (box_off xr0 (p := ⟨w5.heap.size, 0, none⟩) (by show w.heap.size ≠ w5.heap.size; omega) (.int .i64 p8)) (p := ⟨w5.heap.size, 1, none⟩) (by show w.heap.size ≠ w5.heap.size; omega) (.int .i64 q8)
    have hr1 := box_off (box_off xr1 (p := ⟨w5.heap.size, 0, none⟩) (by show w.heap.size + 1 ≠ w5.heap.size; omega) (.int .i64 p8)) (p := ⟨w5.heap.size, 1, none⟩) (by show w.heap.size + 1 ≠ w5.heap.size; omega) (.int .i64 q8)
    have HGq := Lib.hid ((hG8.setNewD (p := ⟨w5.heap.size, 0, none⟩) (by show w.heap.size ≤ w5.heap.size; omega) (.int .i64 p8)).setNewD (p := ⟨w5.heap.size, 1, none⟩) (by show w.heap.size ≤ w5.heap.size; omega) (.int .i64 q8))
    clear xs xr0 xr1 xx hc8 hG8
    obtain ⟨wq, hwq⟩ : ∃ x, (w8.setCell ⟨w5.heap.size, 0, none⟩ (.int .i64 p8)).setCell ⟨w5.heap.size, 1, none⟩ (.int .i64 q8) = x := ⟨_, rfl⟩
    rw [hwq] at qx hs hr0 hr1 HGq
    go_wp2_with fail
    try rw [hwq]
    clear hwq cx0 cx1 fx0 fx1
    have ls := lt_of_block hs
    have ds0 := box_cell hs 0 _ rfl
    have ds1 := box_cell hs 1 _ rfl
    have lx := lt_of_block qx
    have dx0 := box_cell qx 0 _ rfl
    have dx1 := box_cell qx 1 _ rfl
    have lr0 := lt_of_block hr0
    have dr00 := box_cell hr0 0 _ rfl
    have dr01 := box_cell hr0 1 _ rfl
    have lr1 := lt_of_block hr1
    have dr10 := box_cell hr1 0 _ rfl
    have dr11 := box_cell hr1 1 _ rfl
    have fr00 := box_free hr0 0
    have fr01 := box_free hr0 1
    have fr10 := box_free hr1 0
    have fr11 := box_free hr1 1
    have nsr0 : w1.heap.size ≠ w.heap.size := by omega
    have nsr1 : w1.heap.size ≠ w.heap.size + 1 := by omega
    have nxr0 : w5.heap.size ≠ w.heap.size := by omega
    have nxr1 : w5.heap.size ≠ w.heap.size + 1 := by omega
    have nr0r1 : w.heap.size ≠ w.heap.size + 1 := by omega
    have nr1r0 : w.heap.size + 1 ≠ w.heap.size := by omega
    have y0 := store_two hr0 (.int .i64 p1) (.int .i64 q1)
    have y1 := set_other2 (u := .int .i64 p8) (v := .int .i64 q8) y0 nr0r1
    have z1 := store_two (set_other2 (u := .int .i64 p1) (v := .int .i64 q1) hr1 nr1r0) (.int .i64 p8) (.int .i64 q8)
    have HBB := Lib.hid (Chg.to_below (by omega) ((((HGq.out.setNewD (p := ⟨w.heap.size, 0, none⟩) (by show w.heap.size ≤ w.heap.size; omega) (.int .i64 p1)).setNewD (p := ⟨w.heap.size, 1, none⟩) (by show w.heap.size ≤ w.heap.size; omega) (.int .i64 q1)).setNewD (p := ⟨w.heap.size + 1, 0, none⟩) (by show w.heap.size ≤ w.heap.size + 1; omega) (.int .i64 p8)).setNewD (p := ⟨w.heap.size + 1, 1, none⟩) (by show w.heap.size ≤ w.heap.size + 1; omega) (.int .i64 q8)))
    go_region
    have e00 := box_cell y1 0 _ rfl
    have e01 := box_cell y1 1 _ rfl
    have e10 := box_cell z1 0 _ rfl
    have e11 := box_cell z1 1 _ rfl
    go_wp2
    exact bodyPost_ret (v := .tuple #[.agg #[.int .i64 p1, .int .i64 q1], .agg #[.int .i64 p8, .int .i64 q8]]) (by simp [results, Try.results8, go_sem, e00, e01, e10, e11]) rfl ⟨p1, q1, p8, q8, rfl, HBB.out.drew⟩
end Go.Proofs.Ytgfihfmlofgopaa
