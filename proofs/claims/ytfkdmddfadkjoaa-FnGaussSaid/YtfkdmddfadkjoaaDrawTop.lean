/- Drawn inputs. -/
import Derived.Test.YtfkdmddfadkjoaaDraw
import Derived.Test.YtfkdmddfadkjoaaFop
namespace Go.Proofs.Ytfkdmddfadkjoaa
open Go.RowKit

/-- Bytes that lie below the call's own blocks. -/
def Byt (w : World) (A : Option Addr) (n : Nat) : Prop := ∀ j, j < n → ∃ ad, A = some ad ∧ ad.block < w.heap.size ∧ ∃ b : Int, 0 ≤ b ∧ b ≤ 255 ∧ w.cell? (ad.add j) = some (.int .u8 b)
theorem Byt.below {w w' : World} {A : Option Addr} {n : Nat} (h : Byt w A n) (hb : Below w.heap.size w w') : Byt w' A n := fun j hj => by
  obtain ⟨ad, e, h1, b, h2, h3, hc⟩ := h j hj
  exact ⟨ad, e, Nat.lt_of_lt_of_le h1 hb.size, b, h2, h3, (hb.cell (by rw [block_add]; exact h1)).trans hc⟩
theorem cur_new {w w1 : World} {A : Option Addr} {n c g : Nat} (h : w1.heap[g]? = some (.cells #[.slice A n c, .int .i64 0, .int .u64 0] 97 (0, 0))) (hg : w.heap.size ≤ g) (hb : Byt w A n) (hk : ∀ b, b < w.heap.size → w1.heap[b]? = w.heap[b]?) (hn : n ≤ 1048576) : Cur w1 g 0 :=
  ⟨A, n, c, 0, 0, h, by omega, by omega, hn, fun j hj => by
    obtain ⟨ad, e, h1, b, h2, h3, hc⟩ := hb j hj
    exact ⟨ad, e, by omega, b, h2, h3, (World.cell?_of_block (hk _ (by rw [block_add]; exact h1))).trans hc⟩⟩
theorem Chg.to_below {lo hi : Nat} {w w' : World} (hl : w.heap.size ≤ lo) (h : Chg lo hi w w') : Below w.heap.size w w' := ⟨h.os, h.tape, h.output, h.size, fun k hk => h.block k hk (.inl (by omega))⟩
theorem chg_one (w : World) (o : Obj) (lo hi : Nat) : Chg lo hi w (w.alloc o) := Chg.of_below (below_new w o)

theorem cur_app {a b : World} {g L : Nat} {A : Option Addr} (h : Cur a g L) (hg : a.grownBy b (rowOf A)) (hr : ∀ k, rowOf A = some k → g < k) : Cur b g L :=
  h.keep fun k hk => hg.block k (by have := h.lt; omega) (fun e => by have := hr k e.symm; omega)
theorem box_app {a b : World} {g k : Nat} {o : Obj} {A : Option Addr} (h : a.heap[k]? = some o) (hg : a.grownBy b (rowOf A)) (hr : ∀ j, rowOf A = some j → g < j) (hk : k ≤ g) : b.heap[k]? = some o :=
  (hg.block k (lt_of_block h) (fun e => by have := hr k e.symm; omega)).trans h
theorem chg_app {a b w : World} {lo hi : Nat} {A : Option Addr} (h : Chg lo hi w a) (hg : a.grownBy b (rowOf A)) (hr : ∀ j, rowOf A = some j → w.heap.size ≤ j) : Chg lo hi w b :=
  ⟨hg.os.trans h.os, hg.tape.trans h.tape, hg.output.trans h.output, Nat.le_trans h.size hg.size, fun k hk ho => (hg.block k (Nat.lt_of_lt_of_le hk h.size) (fun e => by have := hr k e.symm; omega)).trans (h.block k hk ho)⟩

def DrawUniformBelowP (w : World) (e : Ending) (w' : World) : Prop := ∃ a0 b0 a1 : Int, e = .returned (.tuple #[.agg #[.int .i64 a0, .int .i64 b0], .int .i64 a1]) ∧ Below w.heap.size w w'
set_option maxRecDepth 100000 in
set_option maxHeartbeats 2000000 in
theorem drawUniformBelow_any (A : Option Addr) (n c : Nat) (w : World) (hb : Byt w A n) (hn : n ≤ 1048576) :
    Calls Try.prog 27 #[.slice A n c] w (DrawUniformBelowP w) := by
  have hz0 : w.heap.size ≤ w.heap.size := Nat.le_refl _
  have hq0 := Below.refl w.heap.size w
  have hbb := hb
  go_enter Try.func27, Try.ntmps27
  go_wp2_with fail
  have xr0 := box_new w #[.int .i64 0, .int .i64 0] 38
  have y0 : (w.alloc (.cells #[.int .i64 0, .int .i64 0] 38)).heap.size = w.heap.size + 1 := by simp
  have hq1 := hq0.trans ((below_new w (.cells #[.int .i64 0, .int .i64 0] 38)).mono hq0.size)
  generalize w.alloc (.cells #[.int .i64 0, .int .i64 0] 38) = u900 at *
  have xc := box_new u900 #[.slice A n c, .int .i64 0, .int .u64 0] 97
  replace xr0 := box_below xr0 (below_new u900 (.cells #[.slice A n c, .int .i64 0, .int .u64 0] 97))
  rw [y0] at xc
  have y1 : (u900.alloc (.cells #[.slice A n c, .int .i64 0, .int .u64 0] 97)).heap.size = w.heap.size + 1 + 1 := by simp [y0]
  have hG0 : Chg (w.heap.size + 1) (w.heap.size + 1 + 1) w (u900.alloc (.cells #[.slice A n c, .int .i64 0, .int .u64 0] 97)) := Chg.of_below (hq1.trans ((below_new u900 (.cells #[.slice A n c, .int .i64 0, .int .u64 0] 97)).mono hq1.size))
  have hb9 : ∀ b, b < w.heap.size → (u900.alloc (.cells #[.slice A n c, .int .i64 0, .int .u64 0] 97)).heap[b]? = w.heap[b]? := fun b hb => hG0.block b hb (.inl (by omega))
  generalize u900.alloc (.cells #[.slice A n c, .int .i64 0, .int .u64 0] 97) = u990 at *
  have hc0 := cur_new xc (by omega) hbb hb9 hn
  clear hb9 hbb xc
  clear y0
  have z990 : w.heap.size + 1 + 1 = u990.heap.size := y1.symm
  clear y1
  obtain ⟨g, hg0⟩ : ∃ g, w.heap.size + 1 = g := ⟨_, rfl⟩
  rw [hg0] at hc0 hG0 z990
  rw [hg0]
  refine (anyStream_any g _ _ hc0 (by omega)).mono ?_
  rintro e w1 ⟨p1, q1, rfl, hc1, hg1⟩
  replace xr0 := box_chg xr0 hg1 (by omega)
  have hG1 := hG0.trans hg1
  have z1 := hg1.size
  clear hc0 hG0 hg1
  go_wp2_with fail
  have xlit2 := box_new w1 #[.int .i64 1, .int .i64 2, .int .i64 3, .int .i64 5, .int .i64 6, .int .i64 7, .int .i64 10, .int .i64 16, .int .i64 17, .int .i64 1000, .int .i64 1000000000, .int .i64 0, .int .i64 1000000001] 3
  replace xr0 := box_below xr0 (below_new w1 (.cells #[.int .i64 1, .int .i64 2, .int .i64 3, .int .i64 5, .int .i64 6, .int .i64 7, .int .i64 10, .int .i64 16, .int .i64 17, .int .i64 1000, .int .i64 1000000000, .int .i64 0, .int .i64 1000000001] 3))
  have hc2 := hc1.below (below_new w1 (.cells #[.int .i64 1, .int .i64 2, .int .i64 3, .int .i64 5, .int .i64 6, .int .i64 7, .int .i64 10, .int .i64 16, .int .i64 17, .int .i64 1000, .int .i64 1000000000, .int .i64 0, .int .i64 1000000001] 3))
  have hG2 := hG1.alloc (.cells #[.int .i64 1, .int .i64 2, .int .i64 3, .int .i64 5, .int .i64 6, .int .i64 7, .int .i64 10, .int .i64 16, .int .i64 17, .int .i64 1000, .int .i64 1000000000, .int .i64 0, .int .i64 1000000001] 3)
  have z2 : w1.heap.size + 1 ≤ (w1.alloc (.cells #[.int .i64 1, .int .i64 2, .int .i64 3, .int .i64 5, .int .i64 6, .int .i64 7, .int .i64 10, .int .i64 16, .int .i64 17, .int .i64 1000, .int .i64 1000000000, .int .i64 0, .int .i64 1000000001] 3)).heap.size := by simp
  clear hc1 hG1
  generalize w1.alloc (.cells #[.int .i64 1, .int .i64 2, .int .i64 3, .int .i64 5, .int .i64 6, .int .i64 7, .int .i64 10, .int .i64 16, .int .i64 17, .int .i64 1000, .int .i64 1000000000, .int .i64 0, .int .i64 1000000001] 3) = u2 at *
  have olit2 := own_lit [1, 2, 3, 5, 6, 7, 10, 16, 17, 1000, 1000000000, 0, 1000000001] xlit2 (by decide)
  clear xlit2
  refine (among_any g _ _ _ _ _ _ (0) (1000000001) [1, 2, 3, 5, 6, 7, 10, 16, 17, 1000, 1000000000, 0, 1000000001] _ hc2 (by omega) olit2 (by omega) (by decide) (by decide) (by decide)).mono ?_
  rintro e w3 ⟨v3, rfl, v3l, v3u, hc3, hg3⟩
  replace xr0 := box_chg xr0 hg3 (by omega)
  have hG3 := hG2.trans hg3
  have z3 := hg3.size
  clear hc2 hG2 hg3
  clear olit2
  have lr0 := lt_of_block xr0
  have cr00 := box_cell xr0 0 _ rfl
  have cr01 := box_cell xr0 1 _ rfl
  have fr00 := box_free xr0 0
  have fr01 := box_free xr0 1
  have qq0 := store_two xr0 (.int .i64 p1) (.int .i64 q1)
  have qq0' := qq0
  have e00 := box_cell qq0' 0 _ rfl
  have e01 := box_cell qq0' 1 _ rfl
  go_wp2
  refine bodyPost_ret (v := .tuple #[.agg #[.int .i64 p1, .int .i64 q1], .int .i64 v3]) (by simp [results, Try.results27, go_sem, e00, e01]) rfl ⟨p1, q1, (v3), rfl, Chg.to_below (by omega) ((hG3.setNewD (p := ⟨w.heap.size, 0, none⟩) (by show w.heap.size ≤ w.heap.size; omega) (.int .i64 p1)).setNewD (p := ⟨w.heap.size, 1, none⟩) (by show w.heap.size ≤ w.heap.size; omega) (.int .i64 q1))⟩

def DrawAddGeoP (w : World) (e : Ending) (w' : World) : Prop := ∃ (A2 : Option Addr) (m c2 : Nat) (xs : List Int) (a1 b1 a2 : Int), e = .returned (.tuple #[.slice A2 m c2, .agg #[.int .i64 a1, .int .i64 b1], .int .i64 a2]) ∧ m ≤ 200 ∧ OwnI w' w.heap.size w'.heap.size A2 m c2 xs ∧ Below w.heap.size w w'
set_option maxRecDepth 100000 in
set_option maxHeartbeats 4000000 in
theorem drawAddGeo_any (A : Option Addr) (n c : Nat) (w : World) (hb : Byt w A n) (hn : n ≤ 1048576) :
    Calls Try.prog 57 #[.slice A n c] w (DrawAddGeoP w) := by
  have hz0 : w.heap.size ≤ w.heap.size := Nat.le_refl _
  have hq0 := Below.refl w.heap.size w
  have hbb := hb
  go_enter Try.func57, Try.ntmps57
  go_wp2_with fail
  have xr1 := box_new w #[.int .i64 0, .int .i64 0] 28
  have y0 : (w.alloc (.cells #[.int .i64 0, .int .i64 0] 28)).heap.size = w.heap.size + 1 := by simp
  have hq1 := hq0.trans ((below_new w (.cells #[.int .i64 0, .int .i64 0] 28)).mono hq0.size)
  generalize w.alloc (.cells #[.int .i64 0, .int .i64 0] 28) = u900 at *
  have xc := box_new u900 #[.slice A n c, .int .i64 0, .int .u64 0] 97
  replace xr1 := box_below xr1 (below_new u900 (.cells #[.slice A n c, .int .i64 0, .int .u64 0] 97))
  rw [y0] at xc
  have y1 : (u900.alloc (.cells #[.slice A n c, .int .i64 0, .int .u64 0] 97)).heap.size = w.heap.size + 1 + 1 := by simp [y0]
  have hG0 : Chg (w.heap.size + 1) (w.heap.size + 1 + 1) w (u900.alloc (.cells #[.slice A n c, .int .i64 0, .int .u64 0] 97)) := Chg.of_below (hq1.trans ((below_new u900 (.cells #[.slice A n c, .int .i64 0, .int .u64 0] 97)).mono hq1.size))
  have hb9 : ∀ b, b < w.heap.size → (u900.alloc (.cells #[.slice A n c, .int .i64 0, .int .u64 0] 97)).heap[b]? = w.heap[b]? := fun b hb => hG0.block b hb (.inl (by omega))
  generalize u900.alloc (.cells #[.slice A n c, .int .i64 0, .int .u64 0] 97) = u990 at *
  have hc0 := cur_new xc (by omega) hbb hb9 hn
  clear hb9 hbb xc
  clear y0
  have z990 : w.heap.size + 1 + 1 = u990.heap.size := y1.symm
  clear y1
  obtain ⟨g, hg0⟩ : ∃ g, w.heap.size + 1 = g := ⟨_, rfl⟩
  rw [hg0] at hc0 hG0 z990
  rw [hg0]
  refine (pick_any g _ _ _ hc0 (by omega) (by omega)).mono ?_
  rintro e w1 ⟨v1, rfl, v1l, v1u, hc1, hg1⟩
  replace xr1 := box_chg xr1 hg1 (by omega)
  have hG1 := hG0.trans hg1
  have z1 := hg1.size
  clear hc0 hG0 hg1
  replace v1u : v1 ≤ 7 := by simpa using v1u
  obtain ⟨kk, hkk⟩ := Int.eq_ofNat_of_zero_le v1l
  subst hkk
  have hk7 : kk ≤ 7 := by omega
  clear v1l v1u
  go_wp2_with fail
  go_loopw [6, 7] (fun l i wr => ∃ (k m : Nat) (A2 : Option Addr) (c2 : Nat) (xs : List Int), l = .slice A2 m c2 ∧ i = .int .i64 k ∧ m + k ≤ 7 ∧ OwnI wr (g + 1) wr.heap.size A2 m c2 xs ∧ Cur wr g (2 + 2 * (7 - k)) ∧ wr.heap[w.heap.size]? = some (.cells #[.int .i64 0, .int .i64 0] 28 (0, 0)) ∧ Chg g (g + 1) w wr ∧ g + 1 ≤ wr.heap.size) (fun _ i _ => (intOf i).toNat)
  case atStart => exact ⟨kk, 0, none, 0, [], rfl, rfl, by omega, ⟨Own.nil_, fun k hk => by simp [rowOf] at hk, by omega⟩, hc1.mono (by omega), xr1, hG1, by omega⟩
  case round =>
    clear hc1 xr1 hG1 hk7
    obtain ⟨k, m, A2, c2, xs, rfl, rfl, hmk, hO, hc, xr1, hG, hz⟩ := hrel
    by_cases h0 : 0 < k
    · obtain ⟨j, rfl⟩ : ∃ j, k = j + 1 := ⟨k - 1, by omega⟩
      have hjk : 2 + 2 * (7 - (j + 1)) + 2 = 2 + 2 * (7 - j) := by omega
      go_wp2_with fail
      refine (pick_any g _ _ _ hc (by omega) (by omega)).mono ?_
      rintro e w5 ⟨v, rfl, hv0, hv1, hc5, hg5⟩
      clear hv1
      rw [hjk] at hc5
      replace xr1 := box_chg xr1 hg5 (by omega)
      replace hO := hO.chg hg5 (by omega)
      have hz5 := hg5.size
      have hG5 := hG.trans hg5
      clear hc hG hg5
      go_wp2_with (at_builtin; refine wp_app1 rfl _ _ rfl (g + 1) A2 m c2 _ rfl hO.own _ rfl rfl (by omega) (by omega) ?_; intro A3 c3 w6 hown2 hg2 _)
      have hrow : ∀ j, rowOf A2 = some j → g < j := fun j hj => (hO.row j hj).1
      have hc6 := cur_app hc5 hg2 hrow
      have x6 := box_app xr1 hg2 hrow (by omega)
      have hG6 := chg_app hG5 hg2 (fun j hj => by have := hrow j hj; omega)
      have hO6 := OwnI.of_own hown2 (by omega)
      have hz6 := hg2.size
      clear hO hc5 xr1 hG5 hg2 hown2
      go_wp2
      go_roundw
      case rel => exact ⟨j, m + 1, A3, c3, _, rfl, by go_num, by omega, hO6, hc6, x6, hG6, by omega⟩
      case measure => simp [intOf]
    · obtain rfl : k = 0 := by omega
      have hc0' := hc.mono (show 2 + 2 * (7 - 0) ≤ 16 by omega)
      clear hc h0
      have ol := hO
      have zz := hz
      clear hO hz
      go_wp2_with fail
      refine (pick_any g _ _ _ hc0' (by omega) (by omega)).mono ?_
      rintro e w2 ⟨v2, rfl, v2l, v2u, hc2, hg2⟩
      replace xr1 := box_chg xr1 hg2 (by omega)
      replace ol := ol.chg hg2 (by omega)
      have hG2 := hG.trans hg2
      have z2 := hg2.size
      clear hc0' hG hg2
      replace v2u : v2 ≤ 23 := by simpa using v2u
      by_cases tv20 : v2 = 0
      · subst tv20
        go_wp2_with fail
        have xlit3 := box_new w2 #[.int .i64 1000000000, .int .i64 1000000001, .int .i64 (-1000000000)] 3
        replace xr1 := box_below xr1 (below_new w2 (.cells #[.int .i64 1000000000, .int .i64 1000000001, .int .i64 (-1000000000)] 3))
        replace ol := ol.below (below_new w2 (.cells #[.int .i64 1000000000, .int .i64 1000000001, .int .i64 (-1000000000)] 3))
        have hc3 := hc2.below (below_new w2 (.cells #[.int .i64 1000000000, .int .i64 1000000001, .int .i64 (-1000000000)] 3))
        have hG3 := hG2.alloc (.cells #[.int .i64 1000000000, .int .i64 1000000001, .int .i64 (-1000000000)] 3)
        have z3 : w2.heap.size + 1 ≤ (w2.alloc (.cells #[.int .i64 1000000000, .int .i64 1000000001, .int .i64 (-1000000000)] 3)).heap.size := by simp
        clear hc2 hG2
        generalize w2.alloc (.cells #[.int .i64 1000000000, .int .i64 1000000001, .int .i64 (-1000000000)] 3) = u3 at *
        have olit3 := own_lit [1000000000, 1000000001, -1000000000] xlit3 (by decide)
        clear xlit3
        refine (among_any g _ _ _ _ _ _ (-1000000000) (1000000001) [1000000000, 1000000001, -1000000000] _ hc3 (by omega) olit3 (by omega) (by decide) (by decide) (by decide)).mono ?_
        rintro e w4 ⟨v4, rfl, v4l, v4u, hc4, hg4⟩
        replace xr1 := box_chg xr1 hg4 (by omega)
        replace ol := ol.chg hg4 (by omega)
        have hG4 := hG3.trans hg4
        have z4 := hg4.size
        clear hc3 hG3 hg4
        clear olit3
        go_wp2_with (at_builtin; refine wp_app1 rfl _ _ rfl (g + 1) A2 m c2 _ rfl ol.own _ rfl rfl (by omega) (by omega) ?_; intro A3 c3 w6 hown2 hg2 _; have hrow : ∀ j, rowOf A2 = some j → g < j := (fun j hj => (ol.row j hj).1); have hc6 := cur_app hc4 hg2 hrow)
        have x6 := box_app xr1 hg2 hrow (by omega)
        have hG6 := chg_app hG4 hg2 (fun j hj => by have := hrow j hj; omega)
        have hO6 := OwnI.of_own hown2 (by omega)
        have hz6 := hg2.size
        clear ol xr1 hc4 hG4 hg2 hown2
        have ol := hO6
        have xr1 := x6
        clear hO6 x6
        refine (anyRatio_any g _ _ hc6 (by omega)).mono ?_
        rintro e w5 ⟨p5, q5, rfl, hc5, hg5⟩
        replace xr1 := box_chg xr1 hg5 (by omega)
        replace ol := ol.chg hg5 (by omega)
        have hG5 := hG6.trans hg5
        have z5 := hg5.size
        clear hc6 hG6 hg5
        go_wp2_with fail
        refine (anySeed_any g _ _ hc5 (by omega)).mono ?_
        rintro e w6 ⟨v6, rfl, v6l, v6u, hc6, hg6⟩
        replace xr1 := box_chg xr1 hg6 (by omega)
        replace ol := ol.chg hg6 (by omega)
        have hG6 := hG5.trans hg6
        have z6 := hg6.size
        clear hc5 hG5 hg6
        have lr1 := lt_of_block xr1
        have cr10 := box_cell xr1 0 _ rfl
        have cr11 := box_cell xr1 1 _ rfl
        have fr10 := box_free xr1 0
        have fr11 := box_free xr1 1
        have q1 := store_two xr1 (.int .i64 p5) (.int .i64 q5)
        have e10 := box_cell q1 0 _ rfl
        have e11 := box_cell q1 1 _ rfl
        have HB9 := Chg.to_below (by omega) ((hG6.setNewD (p := ⟨w.heap.size, 0, none⟩) (by show w.heap.size ≤ w.heap.size; omega) (.int .i64 p5)).setNewD (p := ⟨w.heap.size, 1, none⟩) (by show w.heap.size ≤ w.heap.size; omega) (.int .i64 q5))
        have HO9 := Lib.hid (OwnI.fit (ol.chg (((Chg.refl (w.heap.size) (w.heap.size + 1) w6).set (i := 0) (v := .int .i64 p5) (Nat.le_refl _) (by omega)).set (i := 1) (v := .int .i64 q5) (Nat.le_refl _) (by omega)) (by omega)) (show w.heap.size ≤ g + 1 by omega))
        clear ol
        go_wp2
        refine bodyPost_ret (v := .tuple #[.slice _ (m + 1) _, .agg #[.int .i64 p5, .int .i64 q5], .int .i64 v6]) (by simp [results, Try.results57, go_sem, e10, e11]; first | done | exact ⟨rfl, rfl⟩) rfl ⟨_, m + 1, _, _, p5, q5, v6, rfl, by omega, HO9.out, HB9⟩
      · have tv20E : (v2 == 0) = false := by rw [beq_eq_false_iff_ne]; exact tv20
        by_cases tv21 : v2 = 1
        · subst tv21
          obtain ⟨i0, hi, hz00, hz1, hz2⟩ := info_parts Try.infoInt
          go_wp2_with fail
          refine (pick_any g _ _ _ hc2 (by omega) (by omega)).mono ?_
          rintro e w7 ⟨v7, rfl, v7l, v7u, hc7, hg7⟩
          replace xr1 := box_chg xr1 hg7 (by omega)
          replace ol := ol.chg hg7 (by omega)
          have hG7 := hG2.trans hg7
          have z7 := hg7.size
          clear hc2 hG2 hg7
          replace v7u : v7 ≤ 1 := by simpa using v7u
          rcases (show v7 = 0 ∨ v7 = 1 by omega) with hv9 | hv9
          · subst hv9
            go_wp2_with (at_make; refine wpList_make_full _ rfl _ _ 22 rfl w7.heap.size 3 i0 _ 1 Try.underlying22 hi hz00 hz1 .i64 .i64 _ _ 100 rfl rfl rfl rfl (by rw [hz2]; omega) (by unfold maxLen; omega) (Nat.le_refl _) ?_; intro w6 hown hg; have b6 : Below w7.heap.size w7 w6 := (Below.refl _ _).grown hg (Nat.le_refl _) (by simp); have hc6 := hc7.below b6)
            rw [map_replicate0] at hown
            have hO6 := OwnI.of_own (Own.mono hown (show g + 1 ≤ w7.heap.size by omega)) (by omega)
            have x6 := box_below xr1 b6
            have hG6 := hG7.then_ b6
            have hz6 := b6.size
            clear ol xr1 hc7 hG7 hg hown hi hz00 hz1 hz2 b6
            have ol := hO6
            have xr1 := x6
            clear hO6 x6
            refine (anyRatio_any g _ _ hc6 (by omega)).mono ?_
            rintro e w8 ⟨p8, q8, rfl, hc8, hg8⟩
            replace xr1 := box_chg xr1 hg8 (by omega)
            replace ol := ol.chg hg8 (by omega)
            have hG8 := hG6.trans hg8
            have z8 := hg8.size
            clear hc6 hG6 hg8
            go_wp2_with fail
            refine (anySeed_any g _ _ hc8 (by omega)).mono ?_
            rintro e w9 ⟨v9, rfl, v9l, v9u, hc9, hg9⟩
            replace xr1 := box_chg xr1 hg9 (by omega)
            replace ol := ol.chg hg9 (by omega)
            have hG9 := hG8.trans hg9
            have z9 := hg9.size
            clear hc8 hG8 hg9
            have lr1 := lt_of_block xr1
            have cr10 := box_cell xr1 0 _ rfl
            have cr11 := box_cell xr1 1 _ rfl
            have fr10 := box_free xr1 0
            have fr11 := box_free xr1 1
            have q1 := store_two xr1 (.int .i64 p8) (.int .i64 q8)
            have e10 := box_cell q1 0 _ rfl
            have e11 := box_cell q1 1 _ rfl
            have HB9 := Chg.to_below (by omega) ((hG9.setNewD (p := ⟨w.heap.size, 0, none⟩) (by show w.heap.size ≤ w.heap.size; omega) (.int .i64 p8)).setNewD (p := ⟨w.heap.size, 1, none⟩) (by show w.heap.size ≤ w.heap.size; omega) (.int .i64 q8))
            have HO9 := Lib.hid (OwnI.fit (ol.chg (((Chg.refl (w.heap.size) (w.heap.size + 1) w9).set (i := 0) (v := .int .i64 p8) (Nat.le_refl _) (by omega)).set (i := 1) (v := .int .i64 q8) (Nat.le_refl _) (by omega)) (by omega)) (show w.heap.size ≤ g + 1 by omega))
            clear ol
            go_wp2
            refine bodyPost_ret (v := .tuple #[.slice _ (100) _, .agg #[.int .i64 p8, .int .i64 q8], .int .i64 v9]) (by simp [results, Try.results57, go_sem, e10, e11]; first | done | exact ⟨rfl, rfl⟩) rfl ⟨_, 100, _, _, p8, q8, v9, rfl, by omega, HO9.out, HB9⟩
          · subst hv9
            go_wp2_with (at_make; refine wpList_make_full _ rfl _ _ 22 rfl w7.heap.size 3 i0 _ 1 Try.underlying22 hi hz00 hz1 .i64 .i64 _ _ 101 rfl rfl rfl rfl (by rw [hz2]; omega) (by unfold maxLen; omega) (Nat.le_refl _) ?_; intro w6 hown hg; have b6 : Below w7.heap.size w7 w6 := (Below.refl _ _).grown hg (Nat.le_refl _) (by simp); have hc6 := hc7.below b6)
            rw [map_replicate0] at hown
            have hO6 := OwnI.of_own (Own.mono hown (show g + 1 ≤ w7.heap.size by omega)) (by omega)
            have x6 := box_below xr1 b6
            have hG6 := hG7.then_ b6
            have hz6 := b6.size
            clear ol xr1 hc7 hG7 hg hown hi hz00 hz1 hz2 b6
            have ol := hO6
            have xr1 := x6
            clear hO6 x6
            refine (anyRatio_any g _ _ hc6 (by omega)).mono ?_
            rintro e w10 ⟨p10, q10, rfl, hc10, hg10⟩
            replace xr1 := box_chg xr1 hg10 (by omega)
            replace ol := ol.chg hg10 (by omega)
            have hG10 := hG6.trans hg10
            have z10 := hg10.size
            clear hc6 hG6 hg10
            go_wp2_with fail
            refine (anySeed_any g _ _ hc10 (by omega)).mono ?_
            rintro e w11 ⟨v11, rfl, v11l, v11u, hc11, hg11⟩
            replace xr1 := box_chg xr1 hg11 (by omega)
            replace ol := ol.chg hg11 (by omega)
            have hG11 := hG10.trans hg11
            have z11 := hg11.size
            clear hc10 hG10 hg11
            have lr1 := lt_of_block xr1
            have cr10 := box_cell xr1 0 _ rfl
            have cr11 := box_cell xr1 1 _ rfl
            have fr10 := box_free xr1 0
            have fr11 := box_free xr1 1
            have q1 := store_two xr1 (.int .i64 p10) (.int .i64 q10)
            have e10 := box_cell q1 0 _ rfl
            have e11 := box_cell q1 1 _ rfl
            have HB9 := Chg.to_below (by omega) ((hG11.setNewD (p := ⟨w.heap.size, 0, none⟩) (by show w.heap.size ≤ w.heap.size; omega) (.int .i64 p10)).setNewD (p := ⟨w.heap.size, 1, none⟩) (by show w.heap.size ≤ w.heap.size; omega) (.int .i64 q10))
            have HO9 := Lib.hid (OwnI.fit (ol.chg (((Chg.refl (w.heap.size) (w.heap.size + 1) w11).set (i := 0) (v := .int .i64 p10) (Nat.le_refl _) (by omega)).set (i := 1) (v := .int .i64 q10) (Nat.le_refl _) (by omega)) (by omega)) (show w.heap.size ≤ g + 1 by omega))
            clear ol
            go_wp2
            refine bodyPost_ret (v := .tuple #[.slice _ (101) _, .agg #[.int .i64 p10, .int .i64 q10], .int .i64 v11]) (by simp [results, Try.results57, go_sem, e10, e11]; first | done | exact ⟨rfl, rfl⟩) rfl ⟨_, 101, _, _, p10, q10, v11, rfl, by omega, HO9.out, HB9⟩
        · have tv21E : (v2 == 1) = false := by rw [beq_eq_false_iff_ne]; exact tv21
          go_wp2_with fail
          refine (anyRatio_any g _ _ hc2 (by omega)).mono ?_
          rintro e w12 ⟨p12, q12, rfl, hc12, hg12⟩
          replace xr1 := box_chg xr1 hg12 (by omega)
          replace ol := ol.chg hg12 (by omega)
          have hG12 := hG2.trans hg12
          have z12 := hg12.size
          clear hc2 hG2 hg12
          go_wp2_with fail
          refine (anySeed_any g _ _ hc12 (by omega)).mono ?_
          rintro e w13 ⟨v13, rfl, v13l, v13u, hc13, hg13⟩
          replace xr1 := box_chg xr1 hg13 (by omega)
          replace ol := ol.chg hg13 (by omega)
          have hG13 := hG12.trans hg13
          have z13 := hg13.size
          clear hc12 hG12 hg13
          have lr1 := lt_of_block xr1
          have cr10 := box_cell xr1 0 _ rfl
          have cr11 := box_cell xr1 1 _ rfl
          have fr10 := box_free xr1 0
          have fr11 := box_free xr1 1
          have q1 := store_two xr1 (.int .i64 p12) (.int .i64 q12)
          have e10 := box_cell q1 0 _ rfl
          have e11 := box_cell q1 1 _ rfl
          have HB9 := Chg.to_below (by omega) ((hG13.setNewD (p := ⟨w.heap.size, 0, none⟩) (by show w.heap.size ≤ w.heap.size; omega) (.int .i64 p12)).setNewD (p := ⟨w.heap.size, 1, none⟩) (by show w.heap.size ≤ w.heap.size; omega) (.int .i64 q12))
          have HO9 := Lib.hid (OwnI.fit (ol.chg (((Chg.refl (w.heap.size) (w.heap.size + 1) w13).set (i := 0) (v := .int .i64 p12) (Nat.le_refl _) (by omega)).set (i := 1) (v := .int .i64 q12) (Nat.le_refl _) (by omega)) (by omega)) (show w.heap.size ≤ g + 1 by omega))
          clear ol
          go_wp2
          refine bodyPost_ret (v := .tuple #[.slice _ (m) _, .agg #[.int .i64 p12, .int .i64 q12], .int .i64 v13]) (by simp [results, Try.results57, go_sem, e10, e11]; first | done | exact ⟨rfl, rfl⟩) rfl ⟨_, m, _, _, p12, q12, v13, rfl, by omega, HO9.out, HB9⟩

def DrawAddGaussP (w : World) (e : Ending) (w' : World) : Prop := ∃ (A2 : Option Addr) (m c2 : Nat) (xs : List Int) (a1 b1 a2 : Int), e = .returned (.tuple #[.slice A2 m c2, .agg #[.int .i64 a1, .int .i64 b1], .int .i64 a2]) ∧ m ≤ 200 ∧ OwnI w' w.heap.size w'.heap.size A2 m c2 xs ∧ Below w.heap.size w w'
set_option maxRecDepth 100000 in
set_option maxHeartbeats 4000000 in
theorem drawAddGauss_any (A : Option Addr) (n c : Nat) (w : World) (hb : Byt w A n) (hn : n ≤ 1048576) :
    Calls Try.prog 61 #[.slice A n c] w (DrawAddGaussP w) := by
  have hz0 : w.heap.size ≤ w.heap.size := Nat.le_refl _
  have hq0 := Below.refl w.heap.size w
  have hbb := hb
  go_enter Try.func61, Try.ntmps61
  go_wp2_with fail
  have xr1 := box_new w #[.int .i64 0, .int .i64 0] 28
  have y0 : (w.alloc (.cells #[.int .i64 0, .int .i64 0] 28)).heap.size = w.heap.size + 1 := by simp
  have hq1 := hq0.trans ((below_new w (.cells #[.int .i64 0, .int .i64 0] 28)).mono hq0.size)
  generalize w.alloc (.cells #[.int .i64 0, .int .i64 0] 28) = u900 at *
  have xc := box_new u900 #[.slice A n c, .int .i64 0, .int .u64 0] 97
  replace xr1 := box_below xr1 (below_new u900 (.cells #[.slice A n c, .int .i64 0, .int .u64 0] 97))
  rw [y0] at xc
  have y1 : (u900.alloc (.cells #[.slice A n c, .int .i64 0, .int .u64 0] 97)).heap.size = w.heap.size + 1 + 1 := by simp [y0]
  have hG0 : Chg (w.heap.size + 1) (w.heap.size + 1 + 1) w (u900.alloc (.cells #[.slice A n c, .int .i64 0, .int .u64 0] 97)) := Chg.of_below (hq1.trans ((below_new u900 (.cells #[.slice A n c, .int .i64 0, .int .u64 0] 97)).mono hq1.size))
  have hb9 : ∀ b, b < w.heap.size → (u900.alloc (.cells #[.slice A n c, .int .i64 0, .int .u64 0] 97)).heap[b]? = w.heap[b]? := fun b hb => hG0.block b hb (.inl (by omega))
  generalize u900.alloc (.cells #[.slice A n c, .int .i64 0, .int .u64 0] 97) = u990 at *
  have hc0 := cur_new xc (by omega) hbb hb9 hn
  clear hb9 hbb xc
  clear y0
  have z990 : w.heap.size + 1 + 1 = u990.heap.size := y1.symm
  clear y1
  obtain ⟨g, hg0⟩ : ∃ g, w.heap.size + 1 = g := ⟨_, rfl⟩
  rw [hg0] at hc0 hG0 z990
  rw [hg0]
  refine (pick_any g _ _ _ hc0 (by omega) (by omega)).mono ?_
  rintro e w1 ⟨v1, rfl, v1l, v1u, hc1, hg1⟩
  replace xr1 := box_chg xr1 hg1 (by omega)
  have hG1 := hG0.trans hg1
  have z1 := hg1.size
  clear hc0 hG0 hg1
  replace v1u : v1 ≤ 5 := by simpa using v1u
  obtain ⟨kk, hkk⟩ := Int.eq_ofNat_of_zero_le v1l
  subst hkk
  have hk7 : kk ≤ 5 := by omega
  clear v1l v1u
  go_wp2_with fail
  go_loopw [6, 7] (fun l i wr => ∃ (k m : Nat) (A2 : Option Addr) (c2 : Nat) (xs : List Int), l = .slice A2 m c2 ∧ i = .int .i64 k ∧ m + k ≤ 5 ∧ OwnI wr (g + 1) wr.heap.size A2 m c2 xs ∧ Cur wr g (2 + 2 * (5 - k)) ∧ wr.heap[w.heap.size]? = some (.cells #[.int .i64 0, .int .i64 0] 28 (0, 0)) ∧ Chg g (g + 1) w wr ∧ g + 1 ≤ wr.heap.size) (fun _ i _ => (intOf i).toNat)
  case atStart => exact ⟨kk, 0, none, 0, [], rfl, rfl, by omega, ⟨Own.nil_, fun k hk => by simp [rowOf] at hk, by omega⟩, hc1.mono (by omega), xr1, hG1, by omega⟩
  case round =>
    clear hc1 xr1 hG1 hk7
    obtain ⟨k, m, A2, c2, xs, rfl, rfl, hmk, hO, hc, xr1, hG, hz⟩ := hrel
    by_cases h0 : 0 < k
    · obtain ⟨j, rfl⟩ : ∃ j, k = j + 1 := ⟨k - 1, by omega⟩
      have hjk : 2 + 2 * (5 - (j + 1)) + 2 = 2 + 2 * (5 - j) := by omega
      go_wp2_with fail
      refine (pick_any g _ _ _ hc (by omega) (by omega)).mono ?_
      rintro e w5 ⟨v, rfl, hv0, hv1, hc5, hg5⟩
      clear hv1
      rw [hjk] at hc5
      replace xr1 := box_chg xr1 hg5 (by omega)
      replace hO := hO.chg hg5 (by omega)
      have hz5 := hg5.size
      have hG5 := hG.trans hg5
      clear hc hG hg5
      go_wp2_with (at_builtin; refine wp_app1 rfl _ _ rfl (g + 1) A2 m c2 _ rfl hO.own _ rfl rfl (by omega) (by omega) ?_; intro A3 c3 w6 hown2 hg2 _)
      have hrow : ∀ j, rowOf A2 = some j → g < j := fun j hj => (hO.row j hj).1
      have hc6 := cur_app hc5 hg2 hrow
      have x6 := box_app xr1 hg2 hrow (by omega)
      have hG6 := chg_app hG5 hg2 (fun j hj => by have := hrow j hj; omega)
      have hO6 := OwnI.of_own hown2 (by omega)
      have hz6 := hg2.size
      clear hO hc5 xr1 hG5 hg2 hown2
      go_wp2
      go_roundw
      case rel => exact ⟨j, m + 1, A3, c3, _, rfl, by go_num, by omega, hO6, hc6, x6, hG6, by omega⟩
      case measure => simp [intOf]
    · obtain rfl : k = 0 := by omega
      have hc0' := hc.mono (show 2 + 2 * (5 - 0) ≤ 12 by omega)
      clear hc h0
      have ol := hO
      have zz := hz
      clear hO hz
      go_wp2_with fail
      refine (pick_any g _ _ _ hc0' (by omega) (by omega)).mono ?_
      rintro e w2 ⟨v2, rfl, v2l, v2u, hc2, hg2⟩
      replace xr1 := box_chg xr1 hg2 (by omega)
      replace ol := ol.chg hg2 (by omega)
      have hG2 := hG.trans hg2
      have z2 := hg2.size
      clear hc0' hG hg2
      replace v2u : v2 ≤ 23 := by simpa using v2u
      by_cases tv20 : v2 = 0
      · subst tv20
        go_wp2_with fail
        have xlit3 := box_new w2 #[.int .i64 1000000000, .int .i64 1000000001, .int .i64 (-1000000000)] 3
        replace xr1 := box_below xr1 (below_new w2 (.cells #[.int .i64 1000000000, .int .i64 1000000001, .int .i64 (-1000000000)] 3))
        replace ol := ol.below (below_new w2 (.cells #[.int .i64 1000000000, .int .i64 1000000001, .int .i64 (-1000000000)] 3))
        have hc3 := hc2.below (below_new w2 (.cells #[.int .i64 1000000000, .int .i64 1000000001, .int .i64 (-1000000000)] 3))
        have hG3 := hG2.alloc (.cells #[.int .i64 1000000000, .int .i64 1000000001, .int .i64 (-1000000000)] 3)
        have z3 : w2.heap.size + 1 ≤ (w2.alloc (.cells #[.int .i64 1000000000, .int .i64 1000000001, .int .i64 (-1000000000)] 3)).heap.size := by simp
        clear hc2 hG2
        generalize w2.alloc (.cells #[.int .i64 1000000000, .int .i64 1000000001, .int .i64 (-1000000000)] 3) = u3 at *
        have olit3 := own_lit [1000000000, 1000000001, -1000000000] xlit3 (by decide)
        clear xlit3
        refine (among_any g _ _ _ _ _ _ (-1000000000) (1000000001) [1000000000, 1000000001, -1000000000] _ hc3 (by omega) olit3 (by omega) (by decide) (by decide) (by decide)).mono ?_
        rintro e w4 ⟨v4, rfl, v4l, v4u, hc4, hg4⟩
        replace xr1 := box_chg xr1 hg4 (by omega)
        replace ol := ol.chg hg4 (by omega)
        have hG4 := hG3.trans hg4
        have z4 := hg4.size
        clear hc3 hG3 hg4
        clear olit3
        go_wp2_with (at_builtin; refine wp_app1 rfl _ _ rfl (g + 1) A2 m c2 _ rfl ol.own _ rfl rfl (by omega) (by omega) ?_; intro A3 c3 w6 hown2 hg2 _; have hrow : ∀ j, rowOf A2 = some j → g < j := (fun j hj => (ol.row j hj).1); have hc6 := cur_app hc4 hg2 hrow)
        have x6 := box_app xr1 hg2 hrow (by omega)
        have hG6 := chg_app hG4 hg2 (fun j hj => by have := hrow j hj; omega)
        have hO6 := OwnI.of_own hown2 (by omega)
        have hz6 := hg2.size
        clear ol xr1 hc4 hG4 hg2 hown2
        have ol := hO6
        have xr1 := x6
        clear hO6 x6
        refine (anySigma_any g _ _ hc6 (by omega)).mono ?_
        rintro e w5 ⟨p5, q5, rfl, hc5, hg5⟩
        replace xr1 := box_chg xr1 hg5 (by omega)
        replace ol := ol.chg hg5 (by omega)
        have hG5 := hG6.trans hg5
        have z5 := hg5.size
        clear hc6 hG6 hg5
        go_wp2_with fail
        refine (anySeed_any g _ _ hc5 (by omega)).mono ?_
        rintro e w6 ⟨v6, rfl, v6l, v6u, hc6, hg6⟩
        replace xr1 := box_chg xr1 hg6 (by omega)
        replace ol := ol.chg hg6 (by omega)
        have hG6 := hG5.trans hg6
        have z6 := hg6.size
        clear hc5 hG5 hg6
        have lr1 := lt_of_block xr1
        have cr10 := box_cell xr1 0 _ rfl
        have cr11 := box_cell xr1 1 _ rfl
        have fr10 := box_free xr1 0
        have fr11 := box_free xr1 1
        have q1 := store_two xr1 (.int .i64 p5) (.int .i64 q5)
        have e10 := box_cell q1 0 _ rfl
        have e11 := box_cell q1 1 _ rfl
        have HB9 := Chg.to_below (by omega) ((hG6.setNewD (p := ⟨w.heap.size, 0, none⟩) (by show w.heap.size ≤ w.heap.size; omega) (.int .i64 p5)).setNewD (p := ⟨w.heap.size, 1, none⟩) (by show w.heap.size ≤ w.heap.size; omega) (.int .i64 q5))
        have HO9 := Lib.hid (OwnI.fit (ol.chg (((Chg.refl (w.heap.size) (w.heap.size + 1) w6).set (i := 0) (v := .int .i64 p5) (Nat.le_refl _) (by omega)).set (i := 1) (v := .int .i64 q5) (Nat.le_refl _) (by omega)) (by omega)) (show w.heap.size ≤ g + 1 by omega))
        clear ol
        go_wp2
        refine bodyPost_ret (v := .tuple #[.slice _ (m + 1) _, .agg #[.int .i64 p5, .int .i64 q5], .int .i64 v6]) (by simp [results, Try.results61, go_sem, e10, e11]; first | done | exact ⟨rfl, rfl⟩) rfl ⟨_, m + 1, _, _, p5, q5, v6, rfl, by omega, HO9.out, HB9⟩
      · have tv20E : (v2 == 0) = false := by rw [beq_eq_false_iff_ne]; exact tv20
        by_cases tv21 : v2 = 1
        · subst tv21
          obtain ⟨i0, hi, hz00, hz1, hz2⟩ := info_parts Try.infoInt
          go_wp2_with (at_make; refine wpList_make_full _ rfl _ _ 22 rfl w2.heap.size 3 i0 _ 1 Try.underlying22 hi hz00 hz1 .i64 .i64 _ _ 61 rfl rfl rfl rfl (by rw [hz2]; omega) (by unfold maxLen; omega) (Nat.le_refl _) ?_; intro w6 hown hg; have b6 : Below w2.heap.size w2 w6 := (Below.refl _ _).grown hg (Nat.le_refl _) (by simp); have hc6 := hc2.below b6)
          rw [map_replicate0] at hown
          have hO6 := OwnI.of_own (Own.mono hown (show g + 1 ≤ w2.heap.size by omega)) (by omega)
          have x6 := box_below xr1 b6
          have hG6 := hG2.then_ b6
          have hz6 := b6.size
          clear ol xr1 hc2 hG2 hg hown hi hz00 hz1 hz2 b6
          have ol := hO6
          have xr1 := x6
          clear hO6 x6
          refine (anySigma_any g _ _ hc6 (by omega)).mono ?_
          rintro e w7 ⟨p7, q7, rfl, hc7, hg7⟩
          replace xr1 := box_chg xr1 hg7 (by omega)
          replace ol := ol.chg hg7 (by omega)
          have hG7 := hG6.trans hg7
          have z7 := hg7.size
          clear hc6 hG6 hg7
          go_wp2_with fail
          refine (anySeed_any g _ _ hc7 (by omega)).mono ?_
          rintro e w8 ⟨v8, rfl, v8l, v8u, hc8, hg8⟩
          replace xr1 := box_chg xr1 hg8 (by omega)
          replace ol := ol.chg hg8 (by omega)
          have hG8 := hG7.trans hg8
          have z8 := hg8.size
          clear hc7 hG7 hg8
          have lr1 := lt_of_block xr1
          have cr10 := box_cell xr1 0 _ rfl
          have cr11 := box_cell xr1 1 _ rfl
          have fr10 := box_free xr1 0
          have fr11 := box_free xr1 1
          have q1 := store_two xr1 (.int .i64 p7) (.int .i64 q7)
          have e10 := box_cell q1 0 _ rfl
          have e11 := box_cell q1 1 _ rfl
          have HB9 := Chg.to_below (by omega) ((hG8.setNewD (p := ⟨w.heap.size, 0, none⟩) (by show w.heap.size ≤ w.heap.size; omega) (.int .i64 p7)).setNewD (p := ⟨w.heap.size, 1, none⟩) (by show w.heap.size ≤ w.heap.size; omega) (.int .i64 q7))
          have HO9 := Lib.hid (OwnI.fit (ol.chg (((Chg.refl (w.heap.size) (w.heap.size + 1) w8).set (i := 0) (v := .int .i64 p7) (Nat.le_refl _) (by omega)).set (i := 1) (v := .int .i64 q7) (Nat.le_refl _) (by omega)) (by omega)) (show w.heap.size ≤ g + 1 by omega))
          clear ol
          go_wp2
          refine bodyPost_ret (v := .tuple #[.slice _ (61) _, .agg #[.int .i64 p7, .int .i64 q7], .int .i64 v8]) (by simp [results, Try.results61, go_sem, e10, e11]; first | done | exact ⟨rfl, rfl⟩) rfl ⟨_, 61, _, _, p7, q7, v8, rfl, by omega, HO9.out, HB9⟩
        · have tv21E : (v2 == 1) = false := by rw [beq_eq_false_iff_ne]; exact tv21
          go_wp2_with fail
          refine (anySigma_any g _ _ hc2 (by omega)).mono ?_
          rintro e w9 ⟨p9, q9, rfl, hc9, hg9⟩
          replace xr1 := box_chg xr1 hg9 (by omega)
          replace ol := ol.chg hg9 (by omega)
          have hG9 := hG2.trans hg9
          have z9 := hg9.size
          clear hc2 hG2 hg9
          go_wp2_with fail
          refine (anySeed_any g _ _ hc9 (by omega)).mono ?_
          rintro e w10 ⟨v10, rfl, v10l, v10u, hc10, hg10⟩
          replace xr1 := box_chg xr1 hg10 (by omega)
          replace ol := ol.chg hg10 (by omega)
          have hG10 := hG9.trans hg10
          have z10 := hg10.size
          clear hc9 hG9 hg10
          have lr1 := lt_of_block xr1
          have cr10 := box_cell xr1 0 _ rfl
          have cr11 := box_cell xr1 1 _ rfl
          have fr10 := box_free xr1 0
          have fr11 := box_free xr1 1
          have q1 := store_two xr1 (.int .i64 p9) (.int .i64 q9)
          have e10 := box_cell q1 0 _ rfl
          have e11 := box_cell q1 1 _ rfl
          have HB9 := Chg.to_below (by omega) ((hG10.setNewD (p := ⟨w.heap.size, 0, none⟩) (by show w.heap.size ≤ w.heap.size; omega) (.int .i64 p9)).setNewD (p := ⟨w.heap.size, 1, none⟩) (by show w.heap.size ≤ w.heap.size; omega) (.int .i64 q9))
          have HO9 := Lib.hid (OwnI.fit (ol.chg (((Chg.refl (w.heap.size) (w.heap.size + 1) w10).set (i := 0) (v := .int .i64 p9) (Nat.le_refl _) (by omega)).set (i := 1) (v := .int .i64 q9) (Nat.le_refl _) (by omega)) (by omega)) (show w.heap.size ≤ g + 1 by omega))
          clear ol
          go_wp2
          refine bodyPost_ret (v := .tuple #[.slice _ (m) _, .agg #[.int .i64 p9, .int .i64 q9], .int .i64 v10]) (by simp [results, Try.results61, go_sem, e10, e11]; first | done | exact ⟨rfl, rfl⟩) rfl ⟨_, m, _, _, p9, q9, v10, rfl, by omega, HO9.out, HB9⟩

def DrawBitsFromP (w : World) (e : Ending) (w' : World) : Prop := ∃ a0 b0 a1 : Int, e = .returned (.tuple #[.agg #[.int .i64 a0, .int .i64 b0], .int .i64 a1]) ∧ Below w.heap.size w w'
set_option maxRecDepth 100000 in
set_option maxHeartbeats 2000000 in
theorem drawBitsFrom_any (A : Option Addr) (n c : Nat) (w : World) (hb : Byt w A n) (hn : n ≤ 1048576) :
    Calls Try.prog 31 #[.slice A n c] w (DrawBitsFromP w) := by
  have hz0 : w.heap.size ≤ w.heap.size := Nat.le_refl _
  have hq0 := Below.refl w.heap.size w
  have hbb := hb
  go_enter Try.func31, Try.ntmps31
  go_wp2_with fail
  have xr0 := box_new w #[.int .i64 0, .int .i64 0] 38
  have y0 : (w.alloc (.cells #[.int .i64 0, .int .i64 0] 38)).heap.size = w.heap.size + 1 := by simp
  have hq1 := hq0.trans ((below_new w (.cells #[.int .i64 0, .int .i64 0] 38)).mono hq0.size)
  generalize w.alloc (.cells #[.int .i64 0, .int .i64 0] 38) = u900 at *
  have xc := box_new u900 #[.slice A n c, .int .i64 0, .int .u64 0] 97
  replace xr0 := box_below xr0 (below_new u900 (.cells #[.slice A n c, .int .i64 0, .int .u64 0] 97))
  rw [y0] at xc
  have y1 : (u900.alloc (.cells #[.slice A n c, .int .i64 0, .int .u64 0] 97)).heap.size = w.heap.size + 1 + 1 := by simp [y0]
  have hG0 : Chg (w.heap.size + 1) (w.heap.size + 1 + 1) w (u900.alloc (.cells #[.slice A n c, .int .i64 0, .int .u64 0] 97)) := Chg.of_below (hq1.trans ((below_new u900 (.cells #[.slice A n c, .int .i64 0, .int .u64 0] 97)).mono hq1.size))
  have hb9 : ∀ b, b < w.heap.size → (u900.alloc (.cells #[.slice A n c, .int .i64 0, .int .u64 0] 97)).heap[b]? = w.heap[b]? := fun b hb => hG0.block b hb (.inl (by omega))
  generalize u900.alloc (.cells #[.slice A n c, .int .i64 0, .int .u64 0] 97) = u990 at *
  have hc0 := cur_new xc (by omega) hbb hb9 hn
  clear hb9 hbb xc
  clear y0
  have z990 : w.heap.size + 1 + 1 = u990.heap.size := y1.symm
  clear y1
  obtain ⟨g, hg0⟩ : ∃ g, w.heap.size + 1 = g := ⟨_, rfl⟩
  rw [hg0] at hc0 hG0 z990
  rw [hg0]
  refine (anyStream_any g _ _ hc0 (by omega)).mono ?_
  rintro e w1 ⟨p1, q1, rfl, hc1, hg1⟩
  replace xr0 := box_chg xr0 hg1 (by omega)
  have hG1 := hG0.trans hg1
  have z1 := hg1.size
  clear hc0 hG0 hg1
  go_wp2_with fail
  have xlit2 := box_new w1 #[.int .i64 0, .int .i64 1, .int .i64 5, .int .i64 31, .int .i64 200, .int .i64 201, .int .i64 (-1)] 3
  replace xr0 := box_below xr0 (below_new w1 (.cells #[.int .i64 0, .int .i64 1, .int .i64 5, .int .i64 31, .int .i64 200, .int .i64 201, .int .i64 (-1)] 3))
  have hc2 := hc1.below (below_new w1 (.cells #[.int .i64 0, .int .i64 1, .int .i64 5, .int .i64 31, .int .i64 200, .int .i64 201, .int .i64 (-1)] 3))
  have hG2 := hG1.alloc (.cells #[.int .i64 0, .int .i64 1, .int .i64 5, .int .i64 31, .int .i64 200, .int .i64 201, .int .i64 (-1)] 3)
  have z2 : w1.heap.size + 1 ≤ (w1.alloc (.cells #[.int .i64 0, .int .i64 1, .int .i64 5, .int .i64 31, .int .i64 200, .int .i64 201, .int .i64 (-1)] 3)).heap.size := by simp
  clear hc1 hG1
  generalize w1.alloc (.cells #[.int .i64 0, .int .i64 1, .int .i64 5, .int .i64 31, .int .i64 200, .int .i64 201, .int .i64 (-1)] 3) = u2 at *
  have olit2 := own_lit [0, 1, 5, 31, 200, 201, -1] xlit2 (by decide)
  clear xlit2
  refine (among_any g _ _ _ _ _ _ (-1) (201) [0, 1, 5, 31, 200, 201, -1] _ hc2 (by omega) olit2 (by omega) (by decide) (by decide) (by decide)).mono ?_
  rintro e w3 ⟨v3, rfl, v3l, v3u, hc3, hg3⟩
  replace xr0 := box_chg xr0 hg3 (by omega)
  have hG3 := hG2.trans hg3
  have z3 := hg3.size
  clear hc2 hG2 hg3
  clear olit2
  have lr0 := lt_of_block xr0
  have cr00 := box_cell xr0 0 _ rfl
  have cr01 := box_cell xr0 1 _ rfl
  have fr00 := box_free xr0 0
  have fr01 := box_free xr0 1
  have qq0 := store_two xr0 (.int .i64 p1) (.int .i64 q1)
  have qq0' := qq0
  have e00 := box_cell qq0' 0 _ rfl
  have e01 := box_cell qq0' 1 _ rfl
  go_wp2
  refine bodyPost_ret (v := .tuple #[.agg #[.int .i64 p1, .int .i64 q1], .int .i64 v3]) (by simp [results, Try.results31, go_sem, e00, e01]) rfl ⟨p1, q1, (v3), rfl, Chg.to_below (by omega) ((hG3.setNewD (p := ⟨w.heap.size, 0, none⟩) (by show w.heap.size ≤ w.heap.size; omega) (.int .i64 p1)).setNewD (p := ⟨w.heap.size, 1, none⟩) (by show w.heap.size ≤ w.heap.size; omega) (.int .i64 q1))⟩

def DrawShuffleWithP (w : World) (e : Ending) (w' : World) : Prop := ∃ a0 b0 a1 : Int, e = .returned (.tuple #[.agg #[.int .i64 a0, .int .i64 b0], .int .i64 a1]) ∧ Below w.heap.size w w'
set_option maxRecDepth 100000 in
set_option maxHeartbeats 2000000 in
theorem drawShuffleWith_any (A : Option Addr) (n c : Nat) (w : World) (hb : Byt w A n) (hn : n ≤ 1048576) :
    Calls Try.prog 36 #[.slice A n c] w (DrawShuffleWithP w) := by
  have hz0 : w.heap.size ≤ w.heap.size := Nat.le_refl _
  have hq0 := Below.refl w.heap.size w
  have hbb := hb
  go_enter Try.func36, Try.ntmps36
  go_wp2_with fail
  have xr0 := box_new w #[.int .i64 0, .int .i64 0] 38
  have y0 : (w.alloc (.cells #[.int .i64 0, .int .i64 0] 38)).heap.size = w.heap.size + 1 := by simp
  have hq1 := hq0.trans ((below_new w (.cells #[.int .i64 0, .int .i64 0] 38)).mono hq0.size)
  generalize w.alloc (.cells #[.int .i64 0, .int .i64 0] 38) = u900 at *
  have xc := box_new u900 #[.slice A n c, .int .i64 0, .int .u64 0] 97
  replace xr0 := box_below xr0 (below_new u900 (.cells #[.slice A n c, .int .i64 0, .int .u64 0] 97))
  rw [y0] at xc
  have y1 : (u900.alloc (.cells #[.slice A n c, .int .i64 0, .int .u64 0] 97)).heap.size = w.heap.size + 1 + 1 := by simp [y0]
  have hG0 : Chg (w.heap.size + 1) (w.heap.size + 1 + 1) w (u900.alloc (.cells #[.slice A n c, .int .i64 0, .int .u64 0] 97)) := Chg.of_below (hq1.trans ((below_new u900 (.cells #[.slice A n c, .int .i64 0, .int .u64 0] 97)).mono hq1.size))
  have hb9 : ∀ b, b < w.heap.size → (u900.alloc (.cells #[.slice A n c, .int .i64 0, .int .u64 0] 97)).heap[b]? = w.heap[b]? := fun b hb => hG0.block b hb (.inl (by omega))
  generalize u900.alloc (.cells #[.slice A n c, .int .i64 0, .int .u64 0] 97) = u990 at *
  have hc0 := cur_new xc (by omega) hbb hb9 hn
  clear hb9 hbb xc
  clear y0
  have z990 : w.heap.size + 1 + 1 = u990.heap.size := y1.symm
  clear y1
  obtain ⟨g, hg0⟩ : ∃ g, w.heap.size + 1 = g := ⟨_, rfl⟩
  rw [hg0] at hc0 hG0 z990
  rw [hg0]
  refine (anyStream_any g _ _ hc0 (by omega)).mono ?_
  rintro e w1 ⟨p1, q1, rfl, hc1, hg1⟩
  replace xr0 := box_chg xr0 hg1 (by omega)
  have hG1 := hG0.trans hg1
  have z1 := hg1.size
  clear hc0 hG0 hg1
  go_wp2_with fail
  have xlit2 := box_new w1 #[.int .i64 0, .int .i64 1, .int .i64 2, .int .i64 3, .int .i64 5, .int .i64 9, .int .i64 60, .int .i64 61, .int .i64 (-1)] 3
  replace xr0 := box_below xr0 (below_new w1 (.cells #[.int .i64 0, .int .i64 1, .int .i64 2, .int .i64 3, .int .i64 5, .int .i64 9, .int .i64 60, .int .i64 61, .int .i64 (-1)] 3))
  have hc2 := hc1.below (below_new w1 (.cells #[.int .i64 0, .int .i64 1, .int .i64 2, .int .i64 3, .int .i64 5, .int .i64 9, .int .i64 60, .int .i64 61, .int .i64 (-1)] 3))
  have hG2 := hG1.alloc (.cells #[.int .i64 0, .int .i64 1, .int .i64 2, .int .i64 3, .int .i64 5, .int .i64 9, .int .i64 60, .int .i64 61, .int .i64 (-1)] 3)
  have z2 : w1.heap.size + 1 ≤ (w1.alloc (.cells #[.int .i64 0, .int .i64 1, .int .i64 2, .int .i64 3, .int .i64 5, .int .i64 9, .int .i64 60, .int .i64 61, .int .i64 (-1)] 3)).heap.size := by simp
  clear hc1 hG1
  generalize w1.alloc (.cells #[.int .i64 0, .int .i64 1, .int .i64 2, .int .i64 3, .int .i64 5, .int .i64 9, .int .i64 60, .int .i64 61, .int .i64 (-1)] 3) = u2 at *
  have olit2 := own_lit [0, 1, 2, 3, 5, 9, 60, 61, -1] xlit2 (by decide)
  clear xlit2
  refine (among_any g _ _ _ _ _ _ (-1) (61) [0, 1, 2, 3, 5, 9, 60, 61, -1] _ hc2 (by omega) olit2 (by omega) (by decide) (by decide) (by decide)).mono ?_
  rintro e w3 ⟨v3, rfl, v3l, v3u, hc3, hg3⟩
  replace xr0 := box_chg xr0 hg3 (by omega)
  have hG3 := hG2.trans hg3
  have z3 := hg3.size
  clear hc2 hG2 hg3
  clear olit2
  have lr0 := lt_of_block xr0
  have cr00 := box_cell xr0 0 _ rfl
  have cr01 := box_cell xr0 1 _ rfl
  have fr00 := box_free xr0 0
  have fr01 := box_free xr0 1
  have qq0 := store_two xr0 (.int .i64 p1) (.int .i64 q1)
  have qq0' := qq0
  have e00 := box_cell qq0' 0 _ rfl
  have e01 := box_cell qq0' 1 _ rfl
  go_wp2
  refine bodyPost_ret (v := .tuple #[.agg #[.int .i64 p1, .int .i64 q1], .int .i64 v3]) (by simp [results, Try.results36, go_sem, e00, e01]) rfl ⟨p1, q1, (v3), rfl, Chg.to_below (by omega) ((hG3.setNewD (p := ⟨w.heap.size, 0, none⟩) (by show w.heap.size ≤ w.heap.size; omega) (.int .i64 p1)).setNewD (p := ⟨w.heap.size, 1, none⟩) (by show w.heap.size ≤ w.heap.size; omega) (.int .i64 q1))⟩

def DrawGeoSampleP (w : World) (e : Ending) (w' : World) : Prop := ∃ a0 b0 a1 b1 : Int, e = .returned (.tuple #[.agg #[.int .i64 a0, .int .i64 b0], .agg #[.int .i64 a1, .int .i64 b1]]) ∧ Below w.heap.size w w'
set_option maxRecDepth 100000 in
set_option maxHeartbeats 2000000 in
theorem drawGeoSample_any (A : Option Addr) (n c : Nat) (w : World) (hb : Byt w A n) (hn : n ≤ 1048576) :
    Calls Try.prog 58 #[.slice A n c] w (DrawGeoSampleP w) := by
  have hz0 : w.heap.size ≤ w.heap.size := Nat.le_refl _
  have hq0 := Below.refl w.heap.size w
  have hbb := hb
  go_enter Try.func58, Try.ntmps58
  go_wp2_with fail
  have xr0 := box_new w #[.int .i64 0, .int .i64 0] 38
  have y0 : (w.alloc (.cells #[.int .i64 0, .int .i64 0] 38)).heap.size = w.heap.size + 1 := by simp
  have hq1 := hq0.trans ((below_new w (.cells #[.int .i64 0, .int .i64 0] 38)).mono hq0.size)
  generalize w.alloc (.cells #[.int .i64 0, .int .i64 0] 38) = u900 at *
  have xr1 := box_new u900 #[.int .i64 0, .int .i64 0] 28
  replace xr0 := box_below xr0 (below_new u900 (.cells #[.int .i64 0, .int .i64 0] 28))
  have y1 : (u900.alloc (.cells #[.int .i64 0, .int .i64 0] 28)).heap.size = w.heap.size + 1 + 1 := by simp [y0]
  rw [y0] at xr1
  have hq2 := hq1.trans ((below_new u900 (.cells #[.int .i64 0, .int .i64 0] 28)).mono hq1.size)
  generalize u900.alloc (.cells #[.int .i64 0, .int .i64 0] 28) = u901 at *
  have xc := box_new u901 #[.slice A n c, .int .i64 0, .int .u64 0] 97
  replace xr0 := box_below xr0 (below_new u901 (.cells #[.slice A n c, .int .i64 0, .int .u64 0] 97))
  replace xr1 := box_below xr1 (below_new u901 (.cells #[.slice A n c, .int .i64 0, .int .u64 0] 97))
  rw [y1] at xc
  have y2 : (u901.alloc (.cells #[.slice A n c, .int .i64 0, .int .u64 0] 97)).heap.size = w.heap.size + 1 + 1 + 1 := by simp [y1]
  have hG0 : Chg (w.heap.size + 1 + 1) (w.heap.size + 1 + 1 + 1) w (u901.alloc (.cells #[.slice A n c, .int .i64 0, .int .u64 0] 97)) := Chg.of_below (hq2.trans ((below_new u901 (.cells #[.slice A n c, .int .i64 0, .int .u64 0] 97)).mono hq2.size))
  have hb9 : ∀ b, b < w.heap.size → (u901.alloc (.cells #[.slice A n c, .int .i64 0, .int .u64 0] 97)).heap[b]? = w.heap[b]? := fun b hb => hG0.block b hb (.inl (by omega))
  generalize u901.alloc (.cells #[.slice A n c, .int .i64 0, .int .u64 0] 97) = u990 at *
  have hc0 := cur_new xc (by omega) hbb hb9 hn
  clear hb9 hbb xc
  clear y0 y1
  have z990 : w.heap.size + 1 + 1 + 1 = u990.heap.size := y2.symm
  clear y2
  obtain ⟨g, hg0⟩ : ∃ g, w.heap.size + 1 + 1 = g := ⟨_, rfl⟩
  rw [hg0] at hc0 hG0 z990
  rw [hg0]
  refine (anyStream_any g _ _ hc0 (by omega)).mono ?_
  rintro e w1 ⟨p1, q1, rfl, hc1, hg1⟩
  replace xr0 := box_chg xr0 hg1 (by omega)
  replace xr1 := box_chg xr1 hg1 (by omega)
  have hG1 := hG0.trans hg1
  have z1 := hg1.size
  clear hc0 hG0 hg1
  go_wp2_with fail
  refine (anyRatio_any g _ _ hc1 (by omega)).mono ?_
  rintro e w2 ⟨p2, q2, rfl, hc2, hg2⟩
  replace xr0 := box_chg xr0 hg2 (by omega)
  replace xr1 := box_chg xr1 hg2 (by omega)
  have hG2 := hG1.trans hg2
  have z2 := hg2.size
  clear hc1 hG1 hg2
  have lr0 := lt_of_block xr0
  have cr00 := box_cell xr0 0 _ rfl
  have cr01 := box_cell xr0 1 _ rfl
  have fr00 := box_free xr0 0
  have fr01 := box_free xr0 1
  have lr1 := lt_of_block xr1
  have cr10 := box_cell xr1 0 _ rfl
  have cr11 := box_cell xr1 1 _ rfl
  have fr10 := box_free xr1 0
  have fr11 := box_free xr1 1
  have qq0 := store_two xr0 (.int .i64 p1) (.int .i64 q1)
  have qq0' := (box_off (box_off qq0 (p := ⟨w.heap.size + 1, 0, none⟩) (by show w.heap.size ≠ w.heap.size + 1; omega) (.int .i64 p2)) (p := ⟨w.heap.size + 1, 1, none⟩) (by show w.heap.size ≠ w.heap.size + 1; omega) (.int .i64 q2))
  have e00 := box_cell qq0' 0 _ rfl
  have e01 := box_cell qq0' 1 _ rfl
  have qq1 := store_two (box_off (box_off xr1 (p := ⟨w.heap.size, 0, none⟩) (by show w.heap.size + 1 ≠ w.heap.size; omega) (.int .i64 p1)) (p := ⟨w.heap.size, 1, none⟩) (by show w.heap.size + 1 ≠ w.heap.size; omega) (.int .i64 q1)) (.int .i64 p2) (.int .i64 q2)
  have qq1' := qq1
  have e10 := box_cell qq1' 0 _ rfl
  have e11 := box_cell qq1' 1 _ rfl
  go_wp2
  refine bodyPost_ret (v := .tuple #[.agg #[.int .i64 p1, .int .i64 q1], .agg #[.int .i64 p2, .int .i64 q2]]) (by simp [results, Try.results58, go_sem, e00, e01, e10, e11]) rfl ⟨p1, q1, p2, q2, rfl, Chg.to_below (by omega) ((((hG2.setNewD (p := ⟨w.heap.size, 0, none⟩) (by show w.heap.size ≤ w.heap.size; omega) (.int .i64 p1)).setNewD (p := ⟨w.heap.size, 1, none⟩) (by show w.heap.size ≤ w.heap.size; omega) (.int .i64 q1)).setNewD (p := ⟨w.heap.size + 1, 0, none⟩) (by show w.heap.size ≤ w.heap.size + 1; omega) (.int .i64 p2)).setNewD (p := ⟨w.heap.size + 1, 1, none⟩) (by show w.heap.size ≤ w.heap.size + 1; omega) (.int .i64 q2))⟩

def DrawCoinOfP (w : World) (e : Ending) (w' : World) : Prop := ∃ a0 b0 a1 b1 : Int, e = .returned (.tuple #[.agg #[.int .i64 a0, .int .i64 b0], .agg #[.int .i64 a1, .int .i64 b1]]) ∧ Below w.heap.size w w'
set_option maxRecDepth 100000 in
set_option maxHeartbeats 2000000 in
theorem drawCoinOf_any (A : Option Addr) (n c : Nat) (w : World) (hb : Byt w A n) (hn : n ≤ 1048576) :
    Calls Try.prog 39 #[.slice A n c] w (DrawCoinOfP w) := by
  have hz0 : w.heap.size ≤ w.heap.size := Nat.le_refl _
  have hq0 := Below.refl w.heap.size w
  have hbb := hb
  go_enter Try.func39, Try.ntmps39
  go_wp2_with fail
  have xr0 := box_new w #[.int .i64 0, .int .i64 0] 38
  have y0 : (w.alloc (.cells #[.int .i64 0, .int .i64 0] 38)).heap.size = w.heap.size + 1 := by simp
  have hq1 := hq0.trans ((below_new w (.cells #[.int .i64 0, .int .i64 0] 38)).mono hq0.size)
  generalize w.alloc (.cells #[.int .i64 0, .int .i64 0] 38) = u900 at *
  have xr1 := box_new u900 #[.int .i64 0, .int .i64 0] 28
  replace xr0 := box_below xr0 (below_new u900 (.cells #[.int .i64 0, .int .i64 0] 28))
  have y1 : (u900.alloc (.cells #[.int .i64 0, .int .i64 0] 28)).heap.size = w.heap.size + 1 + 1 := by simp [y0]
  rw [y0] at xr1
  have hq2 := hq1.trans ((below_new u900 (.cells #[.int .i64 0, .int .i64 0] 28)).mono hq1.size)
  generalize u900.alloc (.cells #[.int .i64 0, .int .i64 0] 28) = u901 at *
  have xc := box_new u901 #[.slice A n c, .int .i64 0, .int .u64 0] 97
  replace xr0 := box_below xr0 (below_new u901 (.cells #[.slice A n c, .int .i64 0, .int .u64 0] 97))
  replace xr1 := box_below xr1 (below_new u901 (.cells #[.slice A n c, .int .i64 0, .int .u64 0] 97))
  rw [y1] at xc
  have y2 : (u901.alloc (.cells #[.slice A n c, .int .i64 0, .int .u64 0] 97)).heap.size = w.heap.size + 1 + 1 + 1 := by simp [y1]
  have hG0 : Chg (w.heap.size + 1 + 1) (w.heap.size + 1 + 1 + 1) w (u901.alloc (.cells #[.slice A n c, .int .i64 0, .int .u64 0] 97)) := Chg.of_below (hq2.trans ((below_new u901 (.cells #[.slice A n c, .int .i64 0, .int .u64 0] 97)).mono hq2.size))
  have hb9 : ∀ b, b < w.heap.size → (u901.alloc (.cells #[.slice A n c, .int .i64 0, .int .u64 0] 97)).heap[b]? = w.heap[b]? := fun b hb => hG0.block b hb (.inl (by omega))
  generalize u901.alloc (.cells #[.slice A n c, .int .i64 0, .int .u64 0] 97) = u990 at *
  have hc0 := cur_new xc (by omega) hbb hb9 hn
  clear hb9 hbb xc
  clear y0 y1
  have z990 : w.heap.size + 1 + 1 + 1 = u990.heap.size := y2.symm
  clear y2
  obtain ⟨g, hg0⟩ : ∃ g, w.heap.size + 1 + 1 = g := ⟨_, rfl⟩
  rw [hg0] at hc0 hG0 z990
  rw [hg0]
  refine (anyStream_any g _ _ hc0 (by omega)).mono ?_
  rintro e w1 ⟨p1, q1, rfl, hc1, hg1⟩
  replace xr0 := box_chg xr0 hg1 (by omega)
  replace xr1 := box_chg xr1 hg1 (by omega)
  have hG1 := hG0.trans hg1
  have z1 := hg1.size
  clear hc0 hG0 hg1
  go_wp2_with fail
  refine (anyChance_any g _ _ hc1 (by omega)).mono ?_
  rintro e w2 ⟨p2, q2, rfl, hc2, hg2⟩
  replace xr0 := box_chg xr0 hg2 (by omega)
  replace xr1 := box_chg xr1 hg2 (by omega)
  have hG2 := hG1.trans hg2
  have z2 := hg2.size
  clear hc1 hG1 hg2
  have lr0 := lt_of_block xr0
  have cr00 := box_cell xr0 0 _ rfl
  have cr01 := box_cell xr0 1 _ rfl
  have fr00 := box_free xr0 0
  have fr01 := box_free xr0 1
  have lr1 := lt_of_block xr1
  have cr10 := box_cell xr1 0 _ rfl
  have cr11 := box_cell xr1 1 _ rfl
  have fr10 := box_free xr1 0
  have fr11 := box_free xr1 1
  have qq0 := store_two xr0 (.int .i64 p1) (.int .i64 q1)
  have qq0' := (box_off (box_off qq0 (p := ⟨w.heap.size + 1, 0, none⟩) (by show w.heap.size ≠ w.heap.size + 1; omega) (.int .i64 p2)) (p := ⟨w.heap.size + 1, 1, none⟩) (by show w.heap.size ≠ w.heap.size + 1; omega) (.int .i64 q2))
  have e00 := box_cell qq0' 0 _ rfl
  have e01 := box_cell qq0' 1 _ rfl
  have qq1 := store_two (box_off (box_off xr1 (p := ⟨w.heap.size, 0, none⟩) (by show w.heap.size + 1 ≠ w.heap.size; omega) (.int .i64 p1)) (p := ⟨w.heap.size, 1, none⟩) (by show w.heap.size + 1 ≠ w.heap.size; omega) (.int .i64 q1)) (.int .i64 p2) (.int .i64 q2)
  have qq1' := qq1
  have e10 := box_cell qq1' 0 _ rfl
  have e11 := box_cell qq1' 1 _ rfl
  go_wp2
  refine bodyPost_ret (v := .tuple #[.agg #[.int .i64 p1, .int .i64 q1], .agg #[.int .i64 p2, .int .i64 q2]]) (by simp [results, Try.results39, go_sem, e00, e01, e10, e11]) rfl ⟨p1, q1, p2, q2, rfl, Chg.to_below (by omega) ((((hG2.setNewD (p := ⟨w.heap.size, 0, none⟩) (by show w.heap.size ≤ w.heap.size; omega) (.int .i64 p1)).setNewD (p := ⟨w.heap.size, 1, none⟩) (by show w.heap.size ≤ w.heap.size; omega) (.int .i64 q1)).setNewD (p := ⟨w.heap.size + 1, 0, none⟩) (by show w.heap.size ≤ w.heap.size + 1; omega) (.int .i64 p2)).setNewD (p := ⟨w.heap.size + 1, 1, none⟩) (by show w.heap.size ≤ w.heap.size + 1; omega) (.int .i64 q2))⟩

def DrawGaussSampleP (w : World) (e : Ending) (w' : World) : Prop := ∃ a0 b0 a1 b1 : Int, e = .returned (.tuple #[.agg #[.int .i64 a0, .int .i64 b0], .agg #[.int .i64 a1, .int .i64 b1]]) ∧ Below w.heap.size w w'
set_option maxRecDepth 100000 in
set_option maxHeartbeats 2000000 in
theorem drawGaussSample_any (A : Option Addr) (n c : Nat) (w : World) (hb : Byt w A n) (hn : n ≤ 1048576) :
    Calls Try.prog 69 #[.slice A n c] w (DrawGaussSampleP w) := by
  have hz0 : w.heap.size ≤ w.heap.size := Nat.le_refl _
  have hq0 := Below.refl w.heap.size w
  have hbb := hb
  go_enter Try.func69, Try.ntmps69
  go_wp2_with fail
  have xr0 := box_new w #[.int .i64 0, .int .i64 0] 38
  have y0 : (w.alloc (.cells #[.int .i64 0, .int .i64 0] 38)).heap.size = w.heap.size + 1 := by simp
  have hq1 := hq0.trans ((below_new w (.cells #[.int .i64 0, .int .i64 0] 38)).mono hq0.size)
  generalize w.alloc (.cells #[.int .i64 0, .int .i64 0] 38) = u900 at *
  have xr1 := box_new u900 #[.int .i64 0, .int .i64 0] 28
  replace xr0 := box_below xr0 (below_new u900 (.cells #[.int .i64 0, .int .i64 0] 28))
  have y1 : (u900.alloc (.cells #[.int .i64 0, .int .i64 0] 28)).heap.size = w.heap.size + 1 + 1 := by simp [y0]
  rw [y0] at xr1
  have hq2 := hq1.trans ((below_new u900 (.cells #[.int .i64 0, .int .i64 0] 28)).mono hq1.size)
  generalize u900.alloc (.cells #[.int .i64 0, .int .i64 0] 28) = u901 at *
  have xc := box_new u901 #[.slice A n c, .int .i64 0, .int .u64 0] 97
  replace xr0 := box_below xr0 (below_new u901 (.cells #[.slice A n c, .int .i64 0, .int .u64 0] 97))
  replace xr1 := box_below xr1 (below_new u901 (.cells #[.slice A n c, .int .i64 0, .int .u64 0] 97))
  rw [y1] at xc
  have y2 : (u901.alloc (.cells #[.slice A n c, .int .i64 0, .int .u64 0] 97)).heap.size = w.heap.size + 1 + 1 + 1 := by simp [y1]
  have hG0 : Chg (w.heap.size + 1 + 1) (w.heap.size + 1 + 1 + 1) w (u901.alloc (.cells #[.slice A n c, .int .i64 0, .int .u64 0] 97)) := Chg.of_below (hq2.trans ((below_new u901 (.cells #[.slice A n c, .int .i64 0, .int .u64 0] 97)).mono hq2.size))
  have hb9 : ∀ b, b < w.heap.size → (u901.alloc (.cells #[.slice A n c, .int .i64 0, .int .u64 0] 97)).heap[b]? = w.heap[b]? := fun b hb => hG0.block b hb (.inl (by omega))
  generalize u901.alloc (.cells #[.slice A n c, .int .i64 0, .int .u64 0] 97) = u990 at *
  have hc0 := cur_new xc (by omega) hbb hb9 hn
  clear hb9 hbb xc
  clear y0 y1
  have z990 : w.heap.size + 1 + 1 + 1 = u990.heap.size := y2.symm
  clear y2
  obtain ⟨g, hg0⟩ : ∃ g, w.heap.size + 1 + 1 = g := ⟨_, rfl⟩
  rw [hg0] at hc0 hG0 z990
  rw [hg0]
  refine (anyStream_any g _ _ hc0 (by omega)).mono ?_
  rintro e w1 ⟨p1, q1, rfl, hc1, hg1⟩
  replace xr0 := box_chg xr0 hg1 (by omega)
  replace xr1 := box_chg xr1 hg1 (by omega)
  have hG1 := hG0.trans hg1
  have z1 := hg1.size
  clear hc0 hG0 hg1
  go_wp2_with fail
  refine (anySigma_any g _ _ hc1 (by omega)).mono ?_
  rintro e w2 ⟨p2, q2, rfl, hc2, hg2⟩
  replace xr0 := box_chg xr0 hg2 (by omega)
  replace xr1 := box_chg xr1 hg2 (by omega)
  have hG2 := hG1.trans hg2
  have z2 := hg2.size
  clear hc1 hG1 hg2
  have lr0 := lt_of_block xr0
  have cr00 := box_cell xr0 0 _ rfl
  have cr01 := box_cell xr0 1 _ rfl
  have fr00 := box_free xr0 0
  have fr01 := box_free xr0 1
  have lr1 := lt_of_block xr1
  have cr10 := box_cell xr1 0 _ rfl
  have cr11 := box_cell xr1 1 _ rfl
  have fr10 := box_free xr1 0
  have fr11 := box_free xr1 1
  have qq0 := store_two xr0 (.int .i64 p1) (.int .i64 q1)
  have qq0' := (box_off (box_off qq0 (p := ⟨w.heap.size + 1, 0, none⟩) (by show w.heap.size ≠ w.heap.size + 1; omega) (.int .i64 p2)) (p := ⟨w.heap.size + 1, 1, none⟩) (by show w.heap.size ≠ w.heap.size + 1; omega) (.int .i64 q2))
  have e00 := box_cell qq0' 0 _ rfl
  have e01 := box_cell qq0' 1 _ rfl
  have qq1 := store_two (box_off (box_off xr1 (p := ⟨w.heap.size, 0, none⟩) (by show w.heap.size + 1 ≠ w.heap.size; omega) (.int .i64 p1)) (p := ⟨w.heap.size, 1, none⟩) (by show w.heap.size + 1 ≠ w.heap.size; omega) (.int .i64 q1)) (.int .i64 p2) (.int .i64 q2)
  have qq1' := qq1
  have e10 := box_cell qq1' 0 _ rfl
  have e11 := box_cell qq1' 1 _ rfl
  go_wp2
  refine bodyPost_ret (v := .tuple #[.agg #[.int .i64 p1, .int .i64 q1], .agg #[.int .i64 p2, .int .i64 q2]]) (by simp [results, Try.results69, go_sem, e00, e01, e10, e11]) rfl ⟨p1, q1, p2, q2, rfl, Chg.to_below (by omega) ((((hG2.setNewD (p := ⟨w.heap.size, 0, none⟩) (by show w.heap.size ≤ w.heap.size; omega) (.int .i64 p1)).setNewD (p := ⟨w.heap.size, 1, none⟩) (by show w.heap.size ≤ w.heap.size; omega) (.int .i64 q1)).setNewD (p := ⟨w.heap.size + 1, 0, none⟩) (by show w.heap.size ≤ w.heap.size + 1; omega) (.int .i64 p2)).setNewD (p := ⟨w.heap.size + 1, 1, none⟩) (by show w.heap.size ≤ w.heap.size + 1; omega) (.int .i64 q2))⟩

def DrawLaplaceSampleP (w : World) (e : Ending) (w' : World) : Prop := ∃ a0 b0 a1 : Int, e = .returned (.tuple #[.agg #[.int .i64 a0, .int .i64 b0], .int .i64 a1]) ∧ Below w.heap.size w w'
set_option maxRecDepth 100000 in
set_option maxHeartbeats 2000000 in
theorem drawLaplaceSample_any (A : Option Addr) (n c : Nat) (w : World) (hb : Byt w A n) (hn : n ≤ 1048576) :
    Calls Try.prog 70 #[.slice A n c] w (DrawLaplaceSampleP w) := by
  have hz0 : w.heap.size ≤ w.heap.size := Nat.le_refl _
  have hq0 := Below.refl w.heap.size w
  have hbb := hb
  go_enter Try.func70, Try.ntmps70
  go_wp2_with fail
  have xr0 := box_new w #[.int .i64 0, .int .i64 0] 38
  have y0 : (w.alloc (.cells #[.int .i64 0, .int .i64 0] 38)).heap.size = w.heap.size + 1 := by simp
  have hq1 := hq0.trans ((below_new w (.cells #[.int .i64 0, .int .i64 0] 38)).mono hq0.size)
  generalize w.alloc (.cells #[.int .i64 0, .int .i64 0] 38) = u900 at *
  have xc := box_new u900 #[.slice A n c, .int .i64 0, .int .u64 0] 97
  replace xr0 := box_below xr0 (below_new u900 (.cells #[.slice A n c, .int .i64 0, .int .u64 0] 97))
  rw [y0] at xc
  have y1 : (u900.alloc (.cells #[.slice A n c, .int .i64 0, .int .u64 0] 97)).heap.size = w.heap.size + 1 + 1 := by simp [y0]
  have hG0 : Chg (w.heap.size + 1) (w.heap.size + 1 + 1) w (u900.alloc (.cells #[.slice A n c, .int .i64 0, .int .u64 0] 97)) := Chg.of_below (hq1.trans ((below_new u900 (.cells #[.slice A n c, .int .i64 0, .int .u64 0] 97)).mono hq1.size))
  have hb9 : ∀ b, b < w.heap.size → (u900.alloc (.cells #[.slice A n c, .int .i64 0, .int .u64 0] 97)).heap[b]? = w.heap[b]? := fun b hb => hG0.block b hb (.inl (by omega))
  generalize u900.alloc (.cells #[.slice A n c, .int .i64 0, .int .u64 0] 97) = u990 at *
  have hc0 := cur_new xc (by omega) hbb hb9 hn
  clear hb9 hbb xc
  clear y0
  have z990 : w.heap.size + 1 + 1 = u990.heap.size := y1.symm
  clear y1
  obtain ⟨g, hg0⟩ : ∃ g, w.heap.size + 1 = g := ⟨_, rfl⟩
  rw [hg0] at hc0 hG0 z990
  rw [hg0]
  refine (anyStream_any g _ _ hc0 (by omega)).mono ?_
  rintro e w1 ⟨p1, q1, rfl, hc1, hg1⟩
  replace xr0 := box_chg xr0 hg1 (by omega)
  have hG1 := hG0.trans hg1
  have z1 := hg1.size
  clear hc0 hG0 hg1
  go_wp2_with fail
  have xlit2 := box_new w1 #[.int .i64 1, .int .i64 2, .int .i64 3, .int .i64 5, .int .i64 10, .int .i64 1000, .int .i64 1001, .int .i64 0] 3
  replace xr0 := box_below xr0 (below_new w1 (.cells #[.int .i64 1, .int .i64 2, .int .i64 3, .int .i64 5, .int .i64 10, .int .i64 1000, .int .i64 1001, .int .i64 0] 3))
  have hc2 := hc1.below (below_new w1 (.cells #[.int .i64 1, .int .i64 2, .int .i64 3, .int .i64 5, .int .i64 10, .int .i64 1000, .int .i64 1001, .int .i64 0] 3))
  have hG2 := hG1.alloc (.cells #[.int .i64 1, .int .i64 2, .int .i64 3, .int .i64 5, .int .i64 10, .int .i64 1000, .int .i64 1001, .int .i64 0] 3)
  have z2 : w1.heap.size + 1 ≤ (w1.alloc (.cells #[.int .i64 1, .int .i64 2, .int .i64 3, .int .i64 5, .int .i64 10, .int .i64 1000, .int .i64 1001, .int .i64 0] 3)).heap.size := by simp
  clear hc1 hG1
  generalize w1.alloc (.cells #[.int .i64 1, .int .i64 2, .int .i64 3, .int .i64 5, .int .i64 10, .int .i64 1000, .int .i64 1001, .int .i64 0] 3) = u2 at *
  have olit2 := own_lit [1, 2, 3, 5, 10, 1000, 1001, 0] xlit2 (by decide)
  clear xlit2
  refine (among_any g _ _ _ _ _ _ (0) (1001) [1, 2, 3, 5, 10, 1000, 1001, 0] _ hc2 (by omega) olit2 (by omega) (by decide) (by decide) (by decide)).mono ?_
  rintro e w3 ⟨v3, rfl, v3l, v3u, hc3, hg3⟩
  replace xr0 := box_chg xr0 hg3 (by omega)
  have hG3 := hG2.trans hg3
  have z3 := hg3.size
  clear hc2 hG2 hg3
  clear olit2
  have lr0 := lt_of_block xr0
  have cr00 := box_cell xr0 0 _ rfl
  have cr01 := box_cell xr0 1 _ rfl
  have fr00 := box_free xr0 0
  have fr01 := box_free xr0 1
  have qq0 := store_two xr0 (.int .i64 p1) (.int .i64 q1)
  have qq0' := qq0
  have e00 := box_cell qq0' 0 _ rfl
  have e01 := box_cell qq0' 1 _ rfl
  go_wp2
  refine bodyPost_ret (v := .tuple #[.agg #[.int .i64 p1, .int .i64 q1], .int .i64 v3]) (by simp [results, Try.results70, go_sem, e00, e01]) rfl ⟨p1, q1, (v3), rfl, Chg.to_below (by omega) ((hG3.setNewD (p := ⟨w.heap.size, 0, none⟩) (by show w.heap.size ≤ w.heap.size; omega) (.int .i64 p1)).setNewD (p := ⟨w.heap.size, 1, none⟩) (by show w.heap.size ≤ w.heap.size; omega) (.int .i64 q1))⟩

def DrawAcceptExponentP (w : World) (e : Ending) (w' : World) : Prop := ∃ a0 b0 a1 : Int, e = .returned (.tuple #[.agg #[.int .i64 a0, .int .i64 b0], .int .i64 a1]) ∧ Below w.heap.size w w'
set_option maxRecDepth 100000 in
set_option maxHeartbeats 2000000 in
theorem drawAcceptExponent_any (A : Option Addr) (n c : Nat) (w : World) (hb : Byt w A n) (hn : n ≤ 1048576) :
    Calls Try.prog 73 #[.slice A n c] w (DrawAcceptExponentP w) := by
  have hz0 : w.heap.size ≤ w.heap.size := Nat.le_refl _
  have hq0 := Below.refl w.heap.size w
  have hbb := hb
  go_enter Try.func73, Try.ntmps73
  go_wp2_with fail
  have xr0 := box_new w #[.int .i64 0, .int .i64 0] 28
  have y0 : (w.alloc (.cells #[.int .i64 0, .int .i64 0] 28)).heap.size = w.heap.size + 1 := by simp
  have hq1 := hq0.trans ((below_new w (.cells #[.int .i64 0, .int .i64 0] 28)).mono hq0.size)
  generalize w.alloc (.cells #[.int .i64 0, .int .i64 0] 28) = u900 at *
  have xc := box_new u900 #[.slice A n c, .int .i64 0, .int .u64 0] 97
  replace xr0 := box_below xr0 (below_new u900 (.cells #[.slice A n c, .int .i64 0, .int .u64 0] 97))
  rw [y0] at xc
  have y1 : (u900.alloc (.cells #[.slice A n c, .int .i64 0, .int .u64 0] 97)).heap.size = w.heap.size + 1 + 1 := by simp [y0]
  have hG0 : Chg (w.heap.size + 1) (w.heap.size + 1 + 1) w (u900.alloc (.cells #[.slice A n c, .int .i64 0, .int .u64 0] 97)) := Chg.of_below (hq1.trans ((below_new u900 (.cells #[.slice A n c, .int .i64 0, .int .u64 0] 97)).mono hq1.size))
  have hb9 : ∀ b, b < w.heap.size → (u900.alloc (.cells #[.slice A n c, .int .i64 0, .int .u64 0] 97)).heap[b]? = w.heap[b]? := fun b hb => hG0.block b hb (.inl (by omega))
  generalize u900.alloc (.cells #[.slice A n c, .int .i64 0, .int .u64 0] 97) = u990 at *
  have hc0 := cur_new xc (by omega) hbb hb9 hn
  clear hb9 hbb xc
  clear y0
  have z990 : w.heap.size + 1 + 1 = u990.heap.size := y1.symm
  clear y1
  obtain ⟨g, hg0⟩ : ∃ g, w.heap.size + 1 = g := ⟨_, rfl⟩
  rw [hg0] at hc0 hG0 z990
  rw [hg0]
  refine (anySigma_any g _ _ hc0 (by omega)).mono ?_
  rintro e w1 ⟨p1, q1, rfl, hc1, hg1⟩
  replace xr0 := box_chg xr0 hg1 (by omega)
  have hG1 := hG0.trans hg1
  have z1 := hg1.size
  clear hc0 hG0 hg1
  go_wp2_with fail
  have xlit2 := box_new w1 #[.int .i64 0, .int .i64 1, .int .i64 (-2), .int .i64 5, .int .i64 17, .int .i64 1000, .int .i64 1000000000, .int .i64 (-1000000001)] 3
  replace xr0 := box_below xr0 (below_new w1 (.cells #[.int .i64 0, .int .i64 1, .int .i64 (-2), .int .i64 5, .int .i64 17, .int .i64 1000, .int .i64 1000000000, .int .i64 (-1000000001)] 3))
  have hc2 := hc1.below (below_new w1 (.cells #[.int .i64 0, .int .i64 1, .int .i64 (-2), .int .i64 5, .int .i64 17, .int .i64 1000, .int .i64 1000000000, .int .i64 (-1000000001)] 3))
  have hG2 := hG1.alloc (.cells #[.int .i64 0, .int .i64 1, .int .i64 (-2), .int .i64 5, .int .i64 17, .int .i64 1000, .int .i64 1000000000, .int .i64 (-1000000001)] 3)
  have z2 : w1.heap.size + 1 ≤ (w1.alloc (.cells #[.int .i64 0, .int .i64 1, .int .i64 (-2), .int .i64 5, .int .i64 17, .int .i64 1000, .int .i64 1000000000, .int .i64 (-1000000001)] 3)).heap.size := by simp
  clear hc1 hG1
  generalize w1.alloc (.cells #[.int .i64 0, .int .i64 1, .int .i64 (-2), .int .i64 5, .int .i64 17, .int .i64 1000, .int .i64 1000000000, .int .i64 (-1000000001)] 3) = u2 at *
  have olit2 := own_lit [0, 1, -2, 5, 17, 1000, 1000000000, -1000000001] xlit2 (by decide)
  clear xlit2
  refine (among_any g _ _ _ _ _ _ (-1000000001) (1000000000) [0, 1, -2, 5, 17, 1000, 1000000000, -1000000001] _ hc2 (by omega) olit2 (by omega) (by decide) (by decide) (by decide)).mono ?_
  rintro e w3 ⟨v3, rfl, v3l, v3u, hc3, hg3⟩
  replace xr0 := box_chg xr0 hg3 (by omega)
  have hG3 := hG2.trans hg3
  have z3 := hg3.size
  clear hc2 hG2 hg3
  clear olit2
  have lr0 := lt_of_block xr0
  have cr00 := box_cell xr0 0 _ rfl
  have cr01 := box_cell xr0 1 _ rfl
  have fr00 := box_free xr0 0
  have fr01 := box_free xr0 1
  have qq0 := store_two xr0 (.int .i64 p1) (.int .i64 q1)
  have qq0' := qq0
  have e00 := box_cell qq0' 0 _ rfl
  have e01 := box_cell qq0' 1 _ rfl
  go_wp2
  refine bodyPost_ret (v := .tuple #[.agg #[.int .i64 p1, .int .i64 q1], .int .i64 v3]) (by simp [results, Try.results73, go_sem, e00, e01]) rfl ⟨p1, q1, (v3), rfl, Chg.to_below (by omega) ((hG3.setNewD (p := ⟨w.heap.size, 0, none⟩) (by show w.heap.size ≤ w.heap.size; omega) (.int .i64 p1)).setNewD (p := ⟨w.heap.size, 1, none⟩) (by show w.heap.size ≤ w.heap.size; omega) (.int .i64 q1))⟩

def DrawLogRatioP (w : World) (e : Ending) (w' : World) : Prop := ∃ a0 b0 a1 a2 : Int, e = .returned (.tuple #[.agg #[.int .i64 a0, .int .i64 b0], .int .i64 a1, .int .i64 a2]) ∧ Below w.heap.size w w'
set_option maxRecDepth 100000 in
set_option maxHeartbeats 2000000 in
theorem drawLogRatio_any (A : Option Addr) (n c : Nat) (w : World) (hb : Byt w A n) (hn : n ≤ 1048576) :
    Calls Try.prog 66 #[.slice A n c] w (DrawLogRatioP w) := by
  have hz0 : w.heap.size ≤ w.heap.size := Nat.le_refl _
  have hq0 := Below.refl w.heap.size w
  have hbb := hb
  go_enter Try.func66, Try.ntmps66
  go_wp2_with fail
  have xr0 := box_new w #[.int .i64 0, .int .i64 0] 28
  have y0 : (w.alloc (.cells #[.int .i64 0, .int .i64 0] 28)).heap.size = w.heap.size + 1 := by simp
  have hq1 := hq0.trans ((below_new w (.cells #[.int .i64 0, .int .i64 0] 28)).mono hq0.size)
  generalize w.alloc (.cells #[.int .i64 0, .int .i64 0] 28) = u900 at *
  have xc := box_new u900 #[.slice A n c, .int .i64 0, .int .u64 0] 97
  replace xr0 := box_below xr0 (below_new u900 (.cells #[.slice A n c, .int .i64 0, .int .u64 0] 97))
  rw [y0] at xc
  have y1 : (u900.alloc (.cells #[.slice A n c, .int .i64 0, .int .u64 0] 97)).heap.size = w.heap.size + 1 + 1 := by simp [y0]
  have hG0 : Chg (w.heap.size + 1) (w.heap.size + 1 + 1) w (u900.alloc (.cells #[.slice A n c, .int .i64 0, .int .u64 0] 97)) := Chg.of_below (hq1.trans ((below_new u900 (.cells #[.slice A n c, .int .i64 0, .int .u64 0] 97)).mono hq1.size))
  have hb9 : ∀ b, b < w.heap.size → (u900.alloc (.cells #[.slice A n c, .int .i64 0, .int .u64 0] 97)).heap[b]? = w.heap[b]? := fun b hb => hG0.block b hb (.inl (by omega))
  generalize u900.alloc (.cells #[.slice A n c, .int .i64 0, .int .u64 0] 97) = u990 at *
  have hc0 := cur_new xc (by omega) hbb hb9 hn
  clear hb9 hbb xc
  clear y0
  have z990 : w.heap.size + 1 + 1 = u990.heap.size := y1.symm
  clear y1
  obtain ⟨g, hg0⟩ : ∃ g, w.heap.size + 1 = g := ⟨_, rfl⟩
  rw [hg0] at hc0 hG0 z990
  rw [hg0]
  refine (anySigma_any g _ _ hc0 (by omega)).mono ?_
  rintro e w1 ⟨p1, q1, rfl, hc1, hg1⟩
  replace xr0 := box_chg xr0 hg1 (by omega)
  have hG1 := hG0.trans hg1
  have z1 := hg1.size
  clear hc0 hG0 hg1
  go_wp2_with fail
  refine (pick_any g _ _ _ hc1 (by omega) (by omega)).mono ?_
  rintro e w2 ⟨v2, rfl, v2l, v2u, hc2, hg2⟩
  replace xr0 := box_chg xr0 hg2 (by omega)
  have hG2 := hG1.trans hg2
  have z2 := hg2.size
  clear hc1 hG1 hg2
  replace v2u : v2 ≤ 29 := by simpa using v2u
  go_wp2_with fail
  have xlit3 := box_new w2 #[.int .i64 0, .int .i64 1, .int .i64 (-3), .int .i64 8, .int .i64 10000, .int .i64 (-10001)] 3
  replace xr0 := box_below xr0 (below_new w2 (.cells #[.int .i64 0, .int .i64 1, .int .i64 (-3), .int .i64 8, .int .i64 10000, .int .i64 (-10001)] 3))
  have hc3 := hc2.below (below_new w2 (.cells #[.int .i64 0, .int .i64 1, .int .i64 (-3), .int .i64 8, .int .i64 10000, .int .i64 (-10001)] 3))
  have hG3 := hG2.alloc (.cells #[.int .i64 0, .int .i64 1, .int .i64 (-3), .int .i64 8, .int .i64 10000, .int .i64 (-10001)] 3)
  have z3 : w2.heap.size + 1 ≤ (w2.alloc (.cells #[.int .i64 0, .int .i64 1, .int .i64 (-3), .int .i64 8, .int .i64 10000, .int .i64 (-10001)] 3)).heap.size := by simp
  clear hc2 hG2
  generalize w2.alloc (.cells #[.int .i64 0, .int .i64 1, .int .i64 (-3), .int .i64 8, .int .i64 10000, .int .i64 (-10001)] 3) = u3 at *
  have olit3 := own_lit [0, 1, -3, 8, 10000, -10001] xlit3 (by decide)
  clear xlit3
  refine (among_any g _ _ _ _ _ _ (-10001) (10000) [0, 1, -3, 8, 10000, -10001] _ hc3 (by omega) olit3 (by omega) (by decide) (by decide) (by decide)).mono ?_
  rintro e w4 ⟨v4, rfl, v4l, v4u, hc4, hg4⟩
  replace xr0 := box_chg xr0 hg4 (by omega)
  have hG4 := hG3.trans hg4
  have z4 := hg4.size
  clear hc3 hG3 hg4
  clear olit3
  have lr0 := lt_of_block xr0
  have cr00 := box_cell xr0 0 _ rfl
  have cr01 := box_cell xr0 1 _ rfl
  have fr00 := box_free xr0 0
  have fr01 := box_free xr0 1
  have qq0 := store_two xr0 (.int .i64 p1) (.int .i64 q1)
  have qq0' := qq0
  have e00 := box_cell qq0' 0 _ rfl
  have e01 := box_cell qq0' 1 _ rfl
  go_wp2
  refine bodyPost_ret (v := .tuple #[.agg #[.int .i64 p1, .int .i64 q1], .int .i64 (v2 - 15), .int .i64 v4]) (by simp [results, Try.results66, go_sem, e00, e01]) rfl ⟨p1, q1, ((v2 - 15)), (v4), rfl, Chg.to_below (by omega) ((hG4.setNewD (p := ⟨w.heap.size, 0, none⟩) (by show w.heap.size ≤ w.heap.size; omega) (.int .i64 p1)).setNewD (p := ⟨w.heap.size, 1, none⟩) (by show w.heap.size ≤ w.heap.size; omega) (.int .i64 q1))⟩

def DrawSigmaForP (w : World) (e : Ending) (w' : World) : Prop := ∃ a0 b0 a1 : Int, e = .returned (.tuple #[.agg #[.int .i64 a0, .int .i64 b0], .int .i64 a1]) ∧ Below w.heap.size w w'
set_option maxRecDepth 100000 in
set_option maxHeartbeats 2000000 in
theorem drawSigmaFor_any (A : Option Addr) (n c : Nat) (w : World) (hb : Byt w A n) (hn : n ≤ 1048576) :
    Calls Try.prog 62 #[.slice A n c] w (DrawSigmaForP w) := by
  have hz0 : w.heap.size ≤ w.heap.size := Nat.le_refl _
  have hq0 := Below.refl w.heap.size w
  have hbb := hb
  go_enter Try.func62, Try.ntmps62
  go_wp2_with fail
  have xr0 := box_new w #[.int .i64 0, .int .i64 0] 28
  have y0 : (w.alloc (.cells #[.int .i64 0, .int .i64 0] 28)).heap.size = w.heap.size + 1 := by simp
  have hq1 := hq0.trans ((below_new w (.cells #[.int .i64 0, .int .i64 0] 28)).mono hq0.size)
  generalize w.alloc (.cells #[.int .i64 0, .int .i64 0] 28) = u900 at *
  have xc := box_new u900 #[.slice A n c, .int .i64 0, .int .u64 0] 97
  replace xr0 := box_below xr0 (below_new u900 (.cells #[.slice A n c, .int .i64 0, .int .u64 0] 97))
  rw [y0] at xc
  have y1 : (u900.alloc (.cells #[.slice A n c, .int .i64 0, .int .u64 0] 97)).heap.size = w.heap.size + 1 + 1 := by simp [y0]
  have hG0 : Chg (w.heap.size + 1) (w.heap.size + 1 + 1) w (u900.alloc (.cells #[.slice A n c, .int .i64 0, .int .u64 0] 97)) := Chg.of_below (hq1.trans ((below_new u900 (.cells #[.slice A n c, .int .i64 0, .int .u64 0] 97)).mono hq1.size))
  have hb9 : ∀ b, b < w.heap.size → (u900.alloc (.cells #[.slice A n c, .int .i64 0, .int .u64 0] 97)).heap[b]? = w.heap[b]? := fun b hb => hG0.block b hb (.inl (by omega))
  generalize u900.alloc (.cells #[.slice A n c, .int .i64 0, .int .u64 0] 97) = u990 at *
  have hc0 := cur_new xc (by omega) hbb hb9 hn
  clear hb9 hbb xc
  clear y0
  have z990 : w.heap.size + 1 + 1 = u990.heap.size := y1.symm
  clear y1
  obtain ⟨g, hg0⟩ : ∃ g, w.heap.size + 1 = g := ⟨_, rfl⟩
  rw [hg0] at hc0 hG0 z990
  rw [hg0]
  refine (anySigma_any g _ _ hc0 (by omega)).mono ?_
  rintro e w1 ⟨p1, q1, rfl, hc1, hg1⟩
  replace xr0 := box_chg xr0 hg1 (by omega)
  have hG1 := hG0.trans hg1
  have z1 := hg1.size
  clear hc0 hG0 hg1
  go_wp2_with fail
  have xlit2 := box_new w1 #[.int .i64 1, .int .i64 2, .int .i64 5, .int .i64 1000, .int .i64 1001, .int .i64 0] 3
  replace xr0 := box_below xr0 (below_new w1 (.cells #[.int .i64 1, .int .i64 2, .int .i64 5, .int .i64 1000, .int .i64 1001, .int .i64 0] 3))
  have hc2 := hc1.below (below_new w1 (.cells #[.int .i64 1, .int .i64 2, .int .i64 5, .int .i64 1000, .int .i64 1001, .int .i64 0] 3))
  have hG2 := hG1.alloc (.cells #[.int .i64 1, .int .i64 2, .int .i64 5, .int .i64 1000, .int .i64 1001, .int .i64 0] 3)
  have z2 : w1.heap.size + 1 ≤ (w1.alloc (.cells #[.int .i64 1, .int .i64 2, .int .i64 5, .int .i64 1000, .int .i64 1001, .int .i64 0] 3)).heap.size := by simp
  clear hc1 hG1
  generalize w1.alloc (.cells #[.int .i64 1, .int .i64 2, .int .i64 5, .int .i64 1000, .int .i64 1001, .int .i64 0] 3) = u2 at *
  have olit2 := own_lit [1, 2, 5, 1000, 1001, 0] xlit2 (by decide)
  clear xlit2
  refine (among_any g _ _ _ _ _ _ (0) (1001) [1, 2, 5, 1000, 1001, 0] _ hc2 (by omega) olit2 (by omega) (by decide) (by decide) (by decide)).mono ?_
  rintro e w3 ⟨v3, rfl, v3l, v3u, hc3, hg3⟩
  replace xr0 := box_chg xr0 hg3 (by omega)
  have hG3 := hG2.trans hg3
  have z3 := hg3.size
  clear hc2 hG2 hg3
  clear olit2
  have lr0 := lt_of_block xr0
  have cr00 := box_cell xr0 0 _ rfl
  have cr01 := box_cell xr0 1 _ rfl
  have fr00 := box_free xr0 0
  have fr01 := box_free xr0 1
  have qq0 := store_two xr0 (.int .i64 p1) (.int .i64 q1)
  have qq0' := qq0
  have e00 := box_cell qq0' 0 _ rfl
  have e01 := box_cell qq0' 1 _ rfl
  go_wp2
  refine bodyPost_ret (v := .tuple #[.agg #[.int .i64 p1, .int .i64 q1], .int .i64 v3]) (by simp [results, Try.results62, go_sem, e00, e01]) rfl ⟨p1, q1, (v3), rfl, Chg.to_below (by omega) ((hG3.setNewD (p := ⟨w.heap.size, 0, none⟩) (by show w.heap.size ≤ w.heap.size; omega) (.int .i64 p1)).setNewD (p := ⟨w.heap.size, 1, none⟩) (by show w.heap.size ≤ w.heap.size; omega) (.int .i64 q1))⟩
end Go.Proofs.Ytfkdmddfadkjoaa
