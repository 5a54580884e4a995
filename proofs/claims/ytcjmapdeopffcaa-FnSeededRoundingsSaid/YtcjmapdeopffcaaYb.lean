/- Several small texts in one: Cur, DrawB. -/
import Derived.Test.YtcjmapdeopffcaaZc
import Derived.Deep.RegionHeld3
import Derived.IntWalk
namespace Go.Proofs.Ytcjmapdeopffcaa

section
open Go.RowKit

/-- A reader of choices at block g that has read at most L bytes. -/
def Cur (w : World) (g : Nat) (L : Nat) : Prop :=
  ∃ (A : Option Addr) (n c : Nat) (a s : Int), w.heap[g]? = some (.cells #[.slice A n c, .int .i64 a, .int .u64 s] 75 (0, 0)) ∧ 0 ≤ a ∧ a ≤ L ∧ n ≤ 9223372036854775807 ∧
    (∀ j, j < n → ∃ ad, A = some ad ∧ ad.block < g ∧ ∃ b : Int, 0 ≤ b ∧ b ≤ 255 ∧ w.cell? (ad.add j) = some (.int .u8 b))
theorem Cur.mono {w : World} {g L L' : Nat} (h : Cur w g L) (hL : L ≤ L') : Cur w g L' := by
  obtain ⟨A, n, c, a, s, h1, h2, h3, h4⟩ := h
  exact ⟨A, n, c, a, s, h1, h2, by omega, h4⟩
theorem Cur.lt {w : World} {g L : Nat} (h : Cur w g L) : g < w.heap.size := by
  obtain ⟨A, n, c, a, s, h1, _⟩ := h
  exact lt_of_block h1
theorem block_add (a : Addr) (n : Nat) : (a.add n).block = a.block := by unfold Addr.add; split <;> rfl
theorem Cur.keep {w w' : World} {g L : Nat} (h : Cur w g L) (hk : ∀ b, b ≤ g → w'.heap[b]? = w.heap[b]?) : Cur w' g L := by
  obtain ⟨A, n, c, a, s, h1, h2, h3, h4, h5⟩ := h
  refine ⟨A, n, c, a, s, (hk _ (Nat.le_refl _)).trans h1, h2, h3, h4, fun j hj => ?_⟩
  obtain ⟨ad, e, hb, b, hb0, hb1, hc⟩ := h5 j hj
  exact ⟨ad, e, hb, b, hb0, hb1, (World.cell?_of_block (hk _ (by rw [block_add]; omega))).trans hc⟩
theorem Cur.below {w w' : World} {g L : Nat} (h : Cur w g L) (hb : Below w.heap.size w w') : Cur w' g L := h.keep fun b hk => hb.block b (by have := h.lt; omega)
theorem Cur.chg {w w' : World} {g L lo hi : Nat} (h : Cur w g L) (hb : Chg lo hi w w') (hg : g < lo) : Cur w' g L := h.keep fun b hk => hb.block b (by have := h.lt; omega) (by omega)
theorem Cur.drewN {w : World} {g L : Nat} (h : Cur w g L) (k : Nat) : Cur (w.drewN k) g L := h

theorem and255 (x : Int) (h0 : 0 ≤ x) (h1 : x ≤ 18446744073709551615) : 0 ≤ bits .and .u64 x 255 ∧ bits .and .u64 x 255 ≤ 255 := by
  obtain ⟨n, rfl⟩ := Int.eq_ofNat_of_zero_le h0
  have e : bits .and .u64 (n : Int) 255 = ((n &&& 255 : Nat) : Int) := by
    show IntKind.u64.wrap ((BitVec.ofInt 64 (n : Int) &&& BitVec.ofInt 64 255).toNat : Int) = _
    rw [BitVec.toNat_and, BitVec.ofInt_natCast, BitVec.toNat_ofNat]
    have h3 : (BitVec.ofInt 64 255).toNat = 255 := by decide
    rw [h3, Nat.mod_eq_of_lt (show n < 2 ^ 64 by omega)]
    have h4 : n &&& 255 ≤ 255 := Nat.and_le_right
    rw [IntKind.wrap_u64]
    omega
  rw [e]
  have h4 : n &&& 255 ≤ 255 := Nat.and_le_right
  omega
theorem Chg.drewN {lo hi : Nat} {a b : World} (h : Chg lo hi a b) (k : Nat) : Chg lo hi a (b.drewN k) := h.trans (Chg.of_below (below_drewN (Below.refl _ _) k))
theorem u64_bd (x : Int) : 0 ≤ IntKind.u64.wrap x ∧ IntKind.u64.wrap x ≤ 18446744073709551615 := by rw [IntKind.wrap_u64]; omega
theorem shr40 {x : Int} (h0 : 0 ≤ x) (h1 : x ≤ 18446744073709551615) : 0 ≤ x / 1099511627776 ∧ x / 1099511627776 ≤ 18446744073709551615 := by omega
theorem draw_bd (x : Int) : 0 ≤ wrap64 (bits .and .u64 (IntKind.u64.wrap x / 1099511627776) 255) ∧ wrap64 (bits .and .u64 (IntKind.u64.wrap x / 1099511627776) 255) ≤ 255 := by
  have h1 := u64_bd x
  have h2 := shr40 h1.1 h1.2
  have h3 := and255 _ h2.1 h2.2
  generalize bits .and .u64 (IntKind.u64.wrap x / 1099511627776) 255 = y at *
  clear h1 h2
  unfold wrap64
  omega
/-- A drawn number from lo to hi, read by the reader at g. -/
def DInt (lo hi : Int) (g L : Nat) (w : World) (e : Ending) (w' : World) : Prop :=
  ∃ v, e = .returned (.int .i64 v) ∧ lo ≤ v ∧ v ≤ hi ∧ Cur w' g L ∧ Chg g (g + 1) w w'
theorem Cur.step {w : World} {g L n c : Nat} {A : Option Addr} {a s a' s' : Int} (q : Nat) (h : w.heap[g]? = some (.cells #[.slice A n c, .int .i64 a, .int .u64 s] 75 (0, 0))) (h2 : 0 ≤ a') (h3 : a' ≤ L) (h4 : n ≤ 9223372036854775807)
    (h5 : ∀ j, j < n → ∃ ad, A = some ad ∧ ad.block < g ∧ ∃ b : Int, 0 ≤ b ∧ b ≤ 255 ∧ w.cell? (ad.add j) = some (.int .u8 b)) :
    Cur ((((w.drewN q).setCell ⟨g, 1, none⟩ (.int .i64 a')).setCell ⟨g, 2, none⟩ (.int .u64 s'))) g L := by
  refine ⟨A, n, c, a', s', box_set (box_set (w := w.drewN q) h 1 _) 2 _, h2, h3, h4, fun j hj => ?_⟩
  obtain ⟨ad, e, hb, b, hb0, hb1, hc⟩ := h5 j hj
  refine ⟨ad, e, hb, b, hb0, hb1, ?_⟩
  rw [World.cell?_setCell_other _ _ _ _ (fun e => by have := congrArg Addr.block e; rw [block_add] at this; simp at this; omega), World.cell?_setCell_other _ _ _ _ (fun e => by have := congrArg Addr.block e; rw [block_add] at this; simp at this; omega)]
  exact hc
theorem chg_step {w : World} {g : Nat} (q : Nat) (u v : Value) : Chg g (g + 1) w (((w.drewN q).setCell ⟨g, 1, none⟩ u).setCell ⟨g, 2, none⟩ v) :=
  (((Chg.of_below (below_drewN (Below.refl _ _) q)).set (Nat.le_refl _) (by omega)).set (Nat.le_refl _) (by omega))

set_option maxRecDepth 100000 in
set_option maxHeartbeats 1000000 in
theorem next_any (g L : Nat) (w : World) (h : Cur w g L) (hL : L ≤ 1000000000) :
    Calls Try.prog 84 #[.pointer (some ⟨g, 0, none⟩)] w (DInt 0 255 g (L + 1) w) := by
  obtain ⟨A, n, c, a, s, h1, h2, h3, h4, h5⟩ := h
  have c0 := box_cell h1 0 _ rfl
  have c1 := box_cell h1 1 _ rfl
  have c2 := box_cell h1 2 _ rfl
  have f1 := box_free h1 1
  have f2 := box_free h1 2
  have H5 := Lib.hid h5
  by_cases hlt : a < n
  · obtain ⟨k, rfl⟩ := Int.eq_ofNat_of_zero_le h2
    obtain ⟨ad, rfl, hbl, b, hb0, hb1, hc⟩ := h5 k (by omega)
    clear h5
    go_enter Try.func84, Try.ntmps84
    go_wp2
    go_quiet (fail)
    go_wp2
    go_quiet (fail)
    go_wp2
    go_quiet (fail)
    go_wp2
    go_ret
    exact ⟨b, rfl, hb0, hb1, (Cur.step _ h1 (by omega) (by omega) h4 H5.out).drewN _, (chg_step _ _ _).drewN _⟩
  · obtain ⟨k, rfl⟩ := Int.eq_ofNat_of_zero_le h2
    clear h5
    have hlt2 : ¬ (k : Int) + 1 ≤ (n : Int) := by omega
    go_enter Try.func84, Try.ntmps84
    go_wp2
    go_quiet (fail)
    go_wp2
    go_quiet (fail)
    go_wp2
    go_ret
    exact ⟨_, rfl, (draw_bd _).1, (draw_bd _).2, (Cur.step _ h1 (by omega) (by omega) h4 H5.out).drewN _, (chg_step _ _ _).drewN _⟩

set_option maxHeartbeats 1000000 in
theorem pick_any (g L : Nat) (n : Int) (w : World) (h : Cur w g L) (hL : L ≤ 900000000) (hn : n ≤ 1000000000) :
    Calls Try.prog 58 #[.pointer (some ⟨g, 0, none⟩), .int .i64 n] w (DInt 0 (if n ≤ 1 then 0 else n - 1) g (L + 2) w) := by
  by_cases h1 : n ≤ 1
  · rw [if_pos h1]
    go_enter Try.func58, Try.ntmps58
    go_wp2
    go_ret
    exact ⟨0, rfl, by omega, by omega, h.mono (by omega), Chg.refl _ _ _⟩
  · rw [if_neg h1]
    have hL1 : L ≤ 1000000000 := by omega
    by_cases h2 : 200 < n
    · go_enter Try.func58, Try.ntmps58
      go_wp2_with fail
      refine (next_any _ _ _ h hL1).mono ?_
      rintro e w1 ⟨v, rfl, hv0, hv1, hc1, hg1⟩
      go_wp2_with fail
      refine (next_any _ _ _ hc1 (by omega)).mono ?_
      rintro e w2 ⟨u, rfl, hu0, hu1, hc2, hg2⟩
      have hb0 : 0 ≤ (v * 256 + u) % n := Int.emod_nonneg _ (by omega)
      have hb1 : (v * 256 + u) % n < n := Int.emod_lt_of_pos _ (by omega)
      go_wp2
      go_ret
      exact ⟨_, rfl, hb0, by omega, hc2, hg1.trans hg2⟩
    · go_enter Try.func58, Try.ntmps58
      go_wp2_with fail
      refine (next_any _ _ _ h hL1).mono ?_
      rintro e w1 ⟨v, rfl, hv0, hv1, hc1, hg1⟩
      have hb0 : 0 ≤ v % n := Int.emod_nonneg _ (by omega)
      have hb1 : v % n < n := Int.emod_lt_of_pos _ (by omega)
      go_wp2
      go_ret
      exact ⟨_, rfl, hb0, by omega, hc1.mono (by omega), hg1⟩

/-- A drawn truth. -/
def DBool (g L : Nat) (w : World) (e : Ending) (w' : World) : Prop := ∃ v : Bool, e = .returned (.bool v) ∧ Cur w' g L ∧ Chg g (g + 1) w w'
set_option maxHeartbeats 400000 in
theorem one_any (g L : Nat) (n : Int) (w : World) (h : Cur w g L) (hL : L ≤ 900000000) (hn : n ≤ 1000000000) :
    Calls Try.prog 83 #[.pointer (some ⟨g, 0, none⟩), .int .i64 n] w (DBool g (L + 2) w) := by
  go_enter Try.func83, Try.ntmps83
  go_wp2_with fail
  refine (pick_any _ _ _ _ h hL hn).mono ?_
  rintro e w1 ⟨v, rfl, hv0, hv1, hc1, hg1⟩
  clear hv1
  go_wp2
  go_ret
  exact ⟨_, rfl, hc1, hg1⟩

set_option maxHeartbeats 400000 in
theorem among_any (g L : Nat) (A : Option Addr) (n c lo' hi' : Nat) (lo hi : Int) (xs : List Int) (w : World) (h : Cur w g L) (hL : L ≤ 900000000) (ho : OwnI w lo' hi' A n c xs) (hg : g < lo') (hn : 1 ≤ n) (hb : ∀ j, j < n → lo ≤ xs[j]?.getD 0 ∧ xs[j]?.getD 0 ≤ hi) (hn2 : n ≤ 1000000) :
    Calls Try.prog 81 #[.pointer (some ⟨g, 0, none⟩), .slice A n c] w (DInt lo hi g (L + 2) w) := by
  have hlt := h.lt
  have HB := Lib.hid hb
  clear hb
  go_enter Try.func81, Try.ntmps81
  go_wp2_with fail
  refine (pick_any _ _ _ _ h hL (by omega)).mono ?_
  rintro e w1 ⟨v, rfl, hv0, hv1, hc1, hg1⟩
  have hv2 : v < n := by
    split at hv1 <;> omega
  clear hv1
  obtain ⟨k, rfl⟩ := Int.eq_ofNat_of_zero_le hv0
  have hk : k < n := by omega
  obtain ⟨ad, rfl, hc⟩ := (ho.chg hg1 (.inr (by omega))).ints.at_ hk
  have hbk := HB.out k hk
  obtain ⟨x, hxe⟩ : ∃ x, xs[k]?.getD 0 = x := ⟨_, rfl⟩
  rw [hxe] at hc hbk
  clear hxe ho h
  go_wp2
  go_ret
  exact ⟨x, rfl, hbk.1, hbk.2, hc1, hg1⟩
end

section
open Go.RowKit

/-- A drawn pair. -/
def DTwo (g L : Nat) (w : World) (e : Ending) (w' : World) : Prop := ∃ p q : Int, e = .returned (.agg #[.int .i64 p, .int .i64 q]) ∧ Cur w' g L ∧ Chg g (g + 1) w w'
theorem Cur.far {w : World} {g L : Nat} (h : Cur w g L) {p : Addr} (hp : g < p.block) (v : Value) : Cur (w.setCell p v) g L := h.keep fun b hb => Below.heap_setCell w p v b (by omega)
theorem Chg.setNewD {lo hi : Nat} {a b : World} (h : Chg lo hi a b) {p : Addr} (hp : a.heap.size ≤ p.block) (v : Value) : Chg lo hi a (b.setCell p v) :=
  ⟨h.os, h.tape, h.output, by simpa [World.setCell] using h.size, fun k hk ho => (Below.heap_setCell b p v k (by omega)).trans (h.block k hk ho)⟩
theorem box_off {w : World} {g : Nat} {o : Obj} (h : w.heap[g]? = some o) {p : Addr} (hp : g ≠ p.block) (v : Value) : (w.setCell p v).heap[g]? = some o := (Below.heap_setCell w p v g hp).trans h
theorem own_lit {w : World} {g : Nat} (xs : List Int) (h : w.heap[g]? = some (.cells (xs.map (Value.int .i64)).toArray 3 (0, 0))) (hn : xs.length ≤ 1000) : OwnI w g (g + 1) (some ⟨g, 0, none⟩) xs.length xs.length xs := by
  have ho : Own w g (some ⟨g, 0, none⟩) xs.length xs.length xs := ⟨by simp, .inr ⟨g, xs.length, (xs.map (Value.int .i64)).toArray, rfl, Nat.le_refl _, h, Nat.le_refl _, by unfold maxLen; omega, by simp, by rw [Nat.mul_one]; exact List.take_of_length_le (by simp)⟩⟩
  exact ⟨ho, fun k hk => by (have : some g = some k := hk); injection this; omega, by omega⟩

/-- Bytes that lie below the call's own blocks. -/
def Byt (w : World) (A : Option Addr) (n : Nat) : Prop := ∀ j, j < n → ∃ ad, A = some ad ∧ ad.block < w.heap.size ∧ ∃ b : Int, 0 ≤ b ∧ b ≤ 255 ∧ w.cell? (ad.add j) = some (.int .u8 b)
theorem Byt.below {w w' : World} {A : Option Addr} {n : Nat} (h : Byt w A n) (hb : Below w.heap.size w w') : Byt w' A n := fun j hj => by
  obtain ⟨ad, e, h1, b, h2, h3, hc⟩ := h j hj
  exact ⟨ad, e, Nat.lt_of_lt_of_le h1 hb.size, b, h2, h3, (hb.cell (by rw [block_add]; exact h1)).trans hc⟩
theorem cur_new2 {w w1 : World} {A : Option Addr} {n c g : Nat} (h : w1.heap[g]? = some (.cells #[.slice A n c, .int .i64 0, .int .u64 0] 75 (0, 0))) (hg : w.heap.size ≤ g) (hb : Byt w A n) (hk : ∀ b, b < w.heap.size → w1.heap[b]? = w.heap[b]?) (hn : n ≤ 9223372036854775807) : Cur w1 g 0 :=
  ⟨A, n, c, 0, 0, h, by omega, by omega, hn, fun j hj => by
    obtain ⟨ad, e, h1, b, h2, h3, hc⟩ := hb j hj
    exact ⟨ad, e, by omega, b, h2, h3, (World.cell?_of_block (hk _ (by rw [block_add]; exact h1))).trans hc⟩⟩
theorem cur_new {w w1 : World} {A : Option Addr} {n c g : Nat} (h : w1.heap[g]? = some (.cells #[.slice A n c, .int .i64 0, .int .u64 0] 75 (0, 0))) (hg : w.heap.size ≤ g) (hb : Byt w A n) (hk : ∀ b, b < w.heap.size → w1.heap[b]? = w.heap[b]?) (hn : n ≤ 1048576) : Cur w1 g 0 := cur_new2 h hg hb hk (by omega)
theorem Chg.to_below {lo hi : Nat} {w w' : World} (hl : w.heap.size ≤ lo) (h : Chg lo hi w w') : Below w.heap.size w w' := ⟨h.os, h.tape, h.output, h.size, fun k hk => h.block k hk (.inl (by omega))⟩
theorem chg_one (w : World) (o : Obj) (lo hi : Nat) : Chg lo hi w (w.alloc o) := Chg.of_below (below_new w o)

set_option maxRecDepth 100000 in
set_option maxHeartbeats 2000000 in
theorem seed0_any (g L : Nat) (w : World) (h : Cur w g L) (hL : L ≤ 800000) :
    Calls Try.prog 57 #[.pointer (some ⟨g, 0, none⟩)] w (DInt (0) (4611686016279904236) g (L + 4) w) := by
  have hlt := h.lt
  have hc0 := h
  have hG0 := Chg.refl g (g + 1) w
  clear h
  go_enter Try.func57, Try.ntmps57
  go_wp2_with fail
  refine (pick_any g _ _ _ hc0 (by omega) (by omega)).mono ?_
  rintro e w1 ⟨v1, rfl, v1l, v1u, hc1, hg1⟩
  have hG1 := hG0.trans hg1
  have z1 := hg1.size
  clear hc0 hG0 hg1
  replace v1u : v1 ≤ 11 := by simpa using v1u
  by_cases tv10 : v1 = 0
  · subst tv10
    go_wp2
    go_ret
    exact ⟨_, rfl, (by omega), (by omega), hc1.mono (by omega), hG1⟩
  · have tv10E : (v1 == 0) = false := by rw [beq_eq_false_iff_ne]; exact tv10
    by_cases tv11 : v1 = 1
    · subst tv11
      go_wp2_with fail
      have xlit2 := box_new w1 #[.int .i64 4611686016279904236, .int .i64 123456789012] 3
      have hc2 := hc1.below (below_new w1 (.cells #[.int .i64 4611686016279904236, .int .i64 123456789012] 3))
      have hG2 := hG1.alloc (.cells #[.int .i64 4611686016279904236, .int .i64 123456789012] 3)
      have z2 : w1.heap.size + 1 ≤ (w1.alloc (.cells #[.int .i64 4611686016279904236, .int .i64 123456789012] 3)).heap.size := by simp
      clear hc1 hG1
      generalize w1.alloc (.cells #[.int .i64 4611686016279904236, .int .i64 123456789012] 3) = u2 at *
      have olit2 := own_lit [4611686016279904236, 123456789012] xlit2 (by decide)
      clear xlit2
      refine (among_any g _ _ _ _ _ _ (123456789012) (4611686016279904236) [4611686016279904236, 123456789012] _ hc2 (by omega) olit2 (by omega) (by decide) (by decide) (by decide)).mono ?_
      rintro e w3 ⟨v3, rfl, v3l, v3u, hc3, hg3⟩
      have hG3 := hG2.trans hg3
      have z3 := hg3.size
      clear hc2 hG2 hg3
      clear olit2
      go_wp2
      go_ret
      exact ⟨_, rfl, (by omega), (by omega), hc3.mono (by omega), hG3⟩
    · have tv11E : (v1 == 1) = false := by rw [beq_eq_false_iff_ne]; exact tv11
      go_wp2_with fail
      refine (pick_any g _ _ _ hc1 (by omega) (by omega)).mono ?_
      rintro e w4 ⟨v4, rfl, v4l, v4u, hc4, hg4⟩
      have hG4 := hG1.trans hg4
      have z4 := hg4.size
      clear hc1 hG1 hg4
      replace v4u : v4 ≤ 59999 := by simpa using v4u
      go_wp2
      go_ret
      exact ⟨_, rfl, (by omega), (by omega), hc4.mono (by omega), hG4⟩

set_option maxRecDepth 100000 in
set_option maxHeartbeats 2000000 in
theorem anySeed_any (g L : Nat) (w : World) (h : Cur w g L) (hL : L ≤ 799000) :
    Calls Try.prog 49 #[.pointer (some ⟨g, 0, none⟩)] w (DInt (-1) (4611686016279904237) g (L + 6) w) := by
  have hlt := h.lt
  have hc0 := h
  have hG0 := Chg.refl g (g + 1) w
  clear h
  go_enter Try.func49, Try.ntmps49
  go_wp2_with fail
  refine (one_any g _ _ _ hc0 (by omega) (by omega)).mono ?_
  rintro e w1 ⟨b1, rfl, hc1, hg1⟩
  have hG1 := hG0.trans hg1
  have z1 := hg1.size
  clear hc0 hG0 hg1
  cases b1
  · go_wp2_with fail
    refine (seed0_any g _ _ hc1 (by omega)).mono ?_
    rintro e w2 ⟨v2, rfl, v2l, v2u, hc2, hg2⟩
    have hG2 := hG1.trans hg2
    have z2 := hg2.size
    clear hc1 hG1 hg2
    go_wp2
    go_ret
    exact ⟨_, rfl, (by omega), (by omega), hc2.mono (by omega), hG2⟩
  · go_wp2_with fail
    have xlit3 := box_new w1 #[.int .i64 (-1), .int .i64 4611686016279904237] 3
    have hc3 := hc1.below (below_new w1 (.cells #[.int .i64 (-1), .int .i64 4611686016279904237] 3))
    have hG3 := hG1.alloc (.cells #[.int .i64 (-1), .int .i64 4611686016279904237] 3)
    have z3 : w1.heap.size + 1 ≤ (w1.alloc (.cells #[.int .i64 (-1), .int .i64 4611686016279904237] 3)).heap.size := by simp
    clear hc1 hG1
    generalize w1.alloc (.cells #[.int .i64 (-1), .int .i64 4611686016279904237] 3) = u3 at *
    have olit3 := own_lit [-1, 4611686016279904237] xlit3 (by decide)
    clear xlit3
    refine (among_any g _ _ _ _ _ _ (-1) (4611686016279904237) [-1, 4611686016279904237] _ hc3 (by omega) olit3 (by omega) (by decide) (by decide) (by decide)).mono ?_
    rintro e w4 ⟨v4, rfl, v4l, v4u, hc4, hg4⟩
    have hG4 := hG3.trans hg4
    have z4 := hg4.size
    clear hc3 hG3 hg4
    clear olit3
    go_wp2
    go_ret
    exact ⟨_, rfl, (by omega), (by omega), hc4.mono (by omega), hG4⟩

theorem cur_app {a b : World} {g L : Nat} {A : Option Addr} (h : Cur a g L) (hg : a.grownBy b (rowOf A)) (hr : ∀ k, rowOf A = some k → g < k) : Cur b g L :=
  h.keep fun k hk => hg.block k (by have := h.lt; omega) (fun e => by have := hr k e.symm; omega)
theorem box_app {a b : World} {g k : Nat} {o : Obj} {A : Option Addr} (h : a.heap[k]? = some o) (hg : a.grownBy b (rowOf A)) (hr : ∀ j, rowOf A = some j → g < j) (hk : k ≤ g) : b.heap[k]? = some o :=
  (hg.block k (lt_of_block h) (fun e => by have := hr k e.symm; omega)).trans h
theorem chg_app {a b w : World} {lo hi : Nat} {A : Option Addr} (h : Chg lo hi w a) (hg : a.grownBy b (rowOf A)) (hr : ∀ j, rowOf A = some j → w.heap.size ≤ j) : Chg lo hi w b :=
  ⟨hg.os.trans h.os, hg.tape.trans h.tape, hg.output.trans h.output, Nat.le_trans h.size hg.size, fun k hk ho => (hg.block k (Nat.lt_of_lt_of_le hk h.size) (fun e => by have := hr k e.symm; omega)).trans (h.block k hk ho)⟩
end
end Go.Proofs.Ytcjmapdeopffcaa
