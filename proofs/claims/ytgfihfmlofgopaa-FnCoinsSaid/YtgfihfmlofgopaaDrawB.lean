/- Drawn numbers. -/
import Derived.Test.YtgfihfmlofgopaaCur
namespace Go.Proofs.Ytgfihfmlofgopaa
open Go.RowKit

/-- A drawn pair. -/
def DTwo (g L : Nat) (w : World) (e : Ending) (w' : World) : Prop := ∃ p q : Int, e = .returned (.agg #[.int .i64 p, .int .i64 q]) ∧ Cur w' g L ∧ Chg g (g + 1) w w'
theorem Cur.far {w : World} {g L : Nat} (h : Cur w g L) {p : Addr} (hp : g < p.block) (v : Value) : Cur (w.setCell p v) g L := h.keep fun b hb => Below.heap_setCell w p v b (by omega)
theorem Chg.setNewD {lo hi : Nat} {a b : World} (h : Chg lo hi a b) {p : Addr} (hp : a.heap.size ≤ p.block) (v : Value) : Chg lo hi a (b.setCell p v) :=
  ⟨h.os, h.tape, h.output, by simpa [World.setCell] using h.size, fun k hk ho => (Below.heap_setCell b p v k (by omega)).trans (h.block k hk ho)⟩
theorem box_off {w : World} {g : Nat} {o : Obj} (h : w.heap[g]? = some o) {p : Addr} (hp : g ≠ p.block) (v : Value) : (w.setCell p v).heap[g]? = some o := (Below.heap_setCell w p v g hp).trans h
theorem own_lit {w : World} {g : Nat} (xs : List Int) (h : w.heap[g]? = some (.cells (xs.map (Value.int .i64)).toArray 3 (0, 0))) (hn : xs.length ≤ 1000) : OwnI w g (g + 1) (some ⟨g, 0, none⟩) xs.length xs.length xs := by
  have ho : Own w g (some ⟨g, 0, none⟩) xs.length xs.length xs := ⟨by simp, .inr ⟨g, xs.length, (xs.map (Value.int .i64)).toArray, rfl, Nat.le_refl _, h, Nat.le_refl _, by unfold maxLen; omega, by simp, by rw [Nat.mul_one]; exact List.take_of_length_le (by simp)⟩⟩
  exact ⟨ho, fun k hk => by (have : some g = some k := hk); injection this; omega, by omega⟩

/-- Bytes that lie below the call's own blocks. -/
def Byt (w : World) (A : Option Addr) (n : Nat) : Prop := ∀ j, j < n → ∃ ad, A = some ad ∧ ad.block < w.heap.size ∧ ∃ b : Int, 0 ≤ b ∧ b ≤ 255 ∧ w.cell? (ad.add j) = some (.int .u8 b)
theorem Byt.below {w w' : World} {A : Option Addr} {n : Nat} (h : Byt w A n) (hb : Below w.heap.size w w') : Byt w' A n := fun j hj => by
  obtain ⟨ad, e, h1, b, h2, h3, hc⟩ := h j hj
  exact ⟨ad, e, Nat.lt_of_lt_of_le h1 hb.size, b, h2, h3, (hb.cell (by rw [block_add]; exact h1)).trans hc⟩
theorem cur_new2 {w w1 : World} {A : Option Addr} {n c g : Nat} (h : w1.heap[g]? = some (.cells #[.slice A n c, .int .i64 0, .int .u64 0] 52 (0, 0))) (hg : w.heap.size ≤ g) (hb : Byt w A n) (hk : ∀ b, b < w.heap.size → w1.heap[b]? = w.heap[b]?) (hn : n ≤ 9223372036854775807) : Cur w1 g 0 :=
  ⟨A, n, c, 0, 0, h, by omega, by omega, hn, fun j hj => by
    obtain ⟨ad, e, h1, b, h2, h3, hc⟩ := hb j hj
    exact ⟨ad, e, by omega, b, h2, h3, (World.cell?_of_block (hk _ (by rw [block_add]; exact h1))).trans hc⟩⟩
theorem cur_new {w w1 : World} {A : Option Addr} {n c g : Nat} (h : w1.heap[g]? = some (.cells #[.slice A n c, .int .i64 0, .int .u64 0] 52 (0, 0))) (hg : w.heap.size ≤ g) (hb : Byt w A n) (hk : ∀ b, b < w.heap.size → w1.heap[b]? = w.heap[b]?) (hn : n ≤ 1048576) : Cur w1 g 0 := cur_new2 h hg hb hk (by omega)
theorem Chg.to_below {lo hi : Nat} {w w' : World} (hl : w.heap.size ≤ lo) (h : Chg lo hi w w') : Below w.heap.size w w' := ⟨h.os, h.tape, h.output, h.size, fun k hk => h.block k hk (.inl (by omega))⟩
theorem chg_one (w : World) (o : Obj) (lo hi : Nat) : Chg lo hi w (w.alloc o) := Chg.of_below (below_new w o)

set_option maxRecDepth 100000 in
set_option maxHeartbeats 2000000 in
theorem seed0_any (g L : Nat) (w : World) (h : Cur w g L) (hL : L ≤ 800000) :
    Calls Try.prog 79 #[.pointer (some ⟨g, 0, none⟩)] w (DInt (0) (4611686016279904236) g (L + 4) w) := by
  have hlt := h.lt
  have hc0 := h
  have hG0 := Chg.refl g (g + 1) w
  clear h
  go_enter Try.func79, Try.ntmps79
  go_wp2_with fail
  refine (pick_any g _ _ _ hc0 (by omega) (by omega)).mono ?_
  rintro e w1 ⟨v1, rfl, v1l, v1u, hc1, hg1⟩
  have hG1 := hG0.trans hg1
  have z1 := hg1.size
  clear hc0 hG0 hg1
  replace v1u : v1 ≤ 11 := by simpa using v1u
  by_cases tv10 : v1 = 0
  · subst tv10
    go_wp2
    go_ret
    exact ⟨_, rfl, (by omega), (by omega), hc1.mono (by omega), hG1⟩
  · have tv10E : (v1 == 0) = false := by rw [beq_eq_false_iff_ne]; exact tv10
    by_cases tv11 : v1 = 1
    · subst tv11
      go_wp2_with fail
      have xlit2 := box_new w1 #[.int .i64 4611686016279904236, .int .i64 123456789012] 3
      have hc2 := hc1.below (below_new w1 (.cells #[.int .i64 4611686016279904236, .int .i64 123456789012] 3))
      have hG2 := hG1.alloc (.cells #[.int .i64 4611686016279904236, .int .i64 123456789012] 3)
      have z2 : w1.heap.size + 1 ≤ (w1.alloc (.cells #[.int .i64 4611686016279904236, .int .i64 123456789012] 3)).heap.size := by simp
      clear hc1 hG1
      generalize w1.alloc (.cells #[.int .i64 4611686016279904236, .int .i64 123456789012] 3) = u2 at *
      have olit2 := own_lit [4611686016279904236, 123456789012] xlit2 (by decide)
      clear xlit2
      refine (among_any g _ _ _ _ _ _ (123456789012) (4611686016279904236) [4611686016279904236, 123456789012] _ hc2 (by omega) olit2 (by omega) (by decide) (by decide) (by decide)).mono ?_
      rintro e w3 ⟨v3, rfl, v3l, v3u, hc3, hg3⟩
      have hG3 := hG2.trans hg3
      have z3 := hg3.size
      clear hc2 hG2 hg3
      clear olit2
      go_wp2
      go_ret
      exact ⟨_, rfl, (by omega), (by omega), hc3.mono (by omega), hG3⟩
    · have tv11E : (v1 == 1) = false := by rw [beq_eq_false_iff_ne]; exact tv11
      go_wp2_with fail
      refine (pick_any g _ _ _ hc1 (by omega) (by omega)).mono ?_
      rintro e w4 ⟨v4, rfl, v4l, v4u, hc4, hg4⟩
      have hG4 := hG1.trans hg4
      have z4 := hg4.size
      clear hc1 hG1 hg4
      replace v4u : v4 ≤ 59999 := by simpa using v4u
      go_wp2
      go_ret
      exact ⟨_, rfl, (by omega), (by omega), hc4.mono (by omega), hG4⟩

set_option maxRecDepth 100000 in
set_option maxHeartbeats 2000000 in
theorem anySeed_any (g L : Nat) (w : World) (h : Cur w g L) (hL : L ≤ 799000) :
    Calls Try.prog 61 #[.pointer (some ⟨g, 0, none⟩)] w (DInt (-1) (4611686016279904237) g (L + 6) w) := by
  have hlt := h.lt
  have hc0 := h
  have hG0 := Chg.refl g (g + 1) w
  clear h
  go_enter Try.func61, Try.ntmps61
  go_wp2_with fail
  refine (one_any g _ _ _ hc0 (by omega) (by omega)).mono ?_
  rintro e w1 ⟨b1, rfl, hc1, hg1⟩
  have hG1 := hG0.trans hg1
  have z1 := hg1.size
  clear hc0 hG0 hg1
  cases b1
  · go_wp2_with fail
    refine (seed0_any g _ _ hc1 (by omega)).mono ?_
    rintro e w2 ⟨v2, rfl, v2l, v2u, hc2, hg2⟩
    have hG2 := hG1.trans hg2
    have z2 := hg2.size
    clear hc1 hG1 hg2
    go_wp2
    go_ret
    exact ⟨_, rfl, (by omega), (by omega), hc2.mono (by omega), hG2⟩
  · go_wp2_with fail
    have xlit3 := box_new w1 #[.int .i64 (-1), .int .i64 4611686016279904237] 3
    have hc3 := hc1.below (below_new w1 (.cells #[.int .i64 (-1), .int .i64 4611686016279904237] 3))
    have hG3 := hG1.alloc (.cells #[.int .i64 (-1), .int .i64 4611686016279904237] 3)
    have z3 : w1.heap.size + 1 ≤ (w1.alloc (.cells #[.int .i64 (-1), .int .i64 4611686016279904237] 3)).heap.size := by simp
    clear hc1 hG1
    generalize w1.alloc (.cells #[.int .i64 (-1), .int .i64 4611686016279904237] 3) = u3 at *
    have olit3 := own_lit [-1, 4611686016279904237] xlit3 (by decide)
    clear xlit3
    refine (among_any g _ _ _ _ _ _ (-1) (4611686016279904237) [-1, 4611686016279904237] _ hc3 (by omega) olit3 (by omega) (by decide) (by decide) (by decide)).mono ?_
    rintro e w4 ⟨v4, rfl, v4l, v4u, hc4, hg4⟩
    have hG4 := hG3.trans hg4
    have z4 := hg4.size
    clear hc3 hG3 hg4
    clear olit3
    go_wp2
    go_ret
    exact ⟨_, rfl, (by omega), (by omega), hc4.mono (by omega), hG4⟩

theorem cur_app {a b : World} {g L : Nat} {A : Option Addr} (h : Cur a g L) (hg : a.grownBy b (rowOf A)) (hr : ∀ k, rowOf A = some k → g < k) : Cur b g L :=
  h.keep fun k hk => hg.block k (by have := h.lt; omega) (fun e => by have := hr k e.symm; omega)
theorem box_app {a b : World} {g k : Nat} {o : Obj} {A : Option Addr} (h : a.heap[k]? = some o) (hg : a.grownBy b (rowOf A)) (hr : ∀ j, rowOf A = some j → g < j) (hk : k ≤ g) : b.heap[k]? = some o :=
  (hg.block k (lt_of_block h) (fun e => by have := hr k e.symm; omega)).trans h
theorem chg_app {a b w : World} {lo hi : Nat} {A : Option Addr} (h : Chg lo hi w a) (hg : a.grownBy b (rowOf A)) (hr : ∀ j, rowOf A = some j → w.heap.size ≤ j) : Chg lo hi w b :=
  ⟨hg.os.trans h.os, hg.tape.trans h.tape, hg.output.trans h.output, Nat.le_trans h.size hg.size, fun k hk ho => (hg.block k (Nat.lt_of_lt_of_le hk h.size) (fun e => by have := hr k e.symm; omega)).trans (h.block k hk ho)⟩
end Go.Proofs.Ytgfihfmlofgopaa
