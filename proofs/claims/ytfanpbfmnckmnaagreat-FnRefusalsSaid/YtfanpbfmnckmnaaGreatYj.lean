/- Several small texts in one: TlA, TlB. -/
import Derived.Test.YtfanpbfmnckmnaaGreatTbsA
import Derived.Test.YtfanpbfmnckmnaaGreatZc
import Derived.Test.YtfanpbfmnckmnaaGreatZg
namespace Go.Proofs.YtfanpbfmnckmnaaGreat

section
open Go.RowKit

/-- A slice of tables that reads as a list. -/
def TabsL (w : World) (A : Option Addr) (n : Nat) (ts : List TabD) : Prop :=
  ts.length = n ∧ (0 < n → ∃ ad, A = some ad ∧ ∀ j, j < n → w.cell? (ad.add (j * 4)) = some (.int .i64 (tX ts j).lv) ∧ w.cell? ⟨(ad.add (j * 4)).block, (ad.add (j * 4)).off + 3, none⟩ = some (.int .i64 (tX ts j).sum) ∧ (∃ V m c, w.cell? ⟨(ad.add (j * 4)).block, (ad.add (j * 4)).off + 1, none⟩ = some (.slice V m c) ∧ Ints w V m (tX ts j).vars) ∧ ∃ U k c, w.cell? ⟨(ad.add (j * 4)).block, (ad.add (j * 4)).off + 2, none⟩ = some (.slice U k c) ∧ Ints w U k (tX ts j).wh)
section
variable {w w' : World} {A : Option Addr} {n : Nat} {ts : List TabD}
theorem TabsL.at_ {j : Nat} (h : TabsL w A n ts) (hj : j < n) : ∃ ad, A = some ad ∧ w.cell? (ad.add (j * 4)) = some (.int .i64 (tX ts j).lv) ∧ w.cell? ⟨(ad.add (j * 4)).block, (ad.add (j * 4)).off + 3, none⟩ = some (.int .i64 (tX ts j).sum) ∧ (∃ V m c, w.cell? ⟨(ad.add (j * 4)).block, (ad.add (j * 4)).off + 1, none⟩ = some (.slice V m c) ∧ Ints w V m (tX ts j).vars) ∧ ∃ U k c, w.cell? ⟨(ad.add (j * 4)).block, (ad.add (j * 4)).off + 2, none⟩ = some (.slice U k c) ∧ Ints w U k (tX ts j).wh := by
  obtain ⟨ad, e, hc⟩ := h.2 (by omega)
  exact ⟨ad, e, hc j hj⟩
theorem TabsL.nil_ : TabsL w A 0 [] := ⟨rfl, fun h => absurd h (by omega)⟩
theorem TabsL.below (h : TabsL w A n ts) (hb : Below w.heap.size w w') : TabsL w' A n ts :=
  ⟨h.1, fun hn => by
    obtain ⟨ad, e, hc⟩ := h.2 hn
    refine ⟨ad, e, fun j hj => ?_⟩
    obtain ⟨c0, c3, ⟨V, m, c, c1, hi⟩, U, k, c', c2, hi2⟩ := hc j hj
    exact ⟨(hb.cell (block_lt_of_cell c0)).trans c0, (hb.cell (block_lt_of_cell c3)).trans c3, ⟨V, m, c, (hb.cell (block_lt_of_cell c1)).trans c1, hi.below hb⟩, U, k, c', (hb.cell (block_lt_of_cell c2)).trans c2, hi2.below hb⟩⟩
theorem TabsL.drew (h : TabsL w A n ts) : TabsL w.drew A n ts := h
theorem TabsL.tabs (h : TabsL w A n ts) (hn : n ≤ 1099511627776) (hs : ∀ j, j < n → (tX ts j).vars.length ≤ 1099511627776 ∧ (tX ts j).wh.length ≤ 1099511627776) : TabsR w A n ts :=
  ⟨h.1, hn, fun h0 => by
    obtain ⟨ad, e, hc⟩ := h.2 h0
    refine ⟨ad, e, fun j hj => ?_⟩
    obtain ⟨c0, c3, ⟨V, m, c, c1, hi⟩, U, k, c', c2, hi2⟩ := hc j hj
    exact ⟨V, m, c, U, k, c', c0, c1, c2, c3, ⟨hi, by have := (hs j hj).1; rw [hi.1] at this; exact this⟩, ⟨hi2, by have := (hs j hj).2; rw [hi2.1] at this; exact this⟩⟩⟩
end
theorem szi_two {m : Nat} {x : Int} : (szi m x < 0 → szi m x = -1) ∧ (0 ≤ szi m x → (m : Int) + szi m x = x) := by
  unfold szi
  split <;> omega

set_option maxHeartbeats 400000 in
theorem szTable_any (x y : Int) (V U : Option Addr) (m d k e : Nat) (r : Int) (w : World) (hm : m ≤ 9223372036854775807) (hk : k ≤ 9223372036854775807) (h0 : 0 ≤ r) (h1 : r ≤ 1099511627776) :
    Calls Tryz.prog 18 #[.agg #[.int .i64 x, .slice V m d, .slice U k e, .int .i64 y], .int .i64 r] w fun e w' => (∃ q, e = .returned (.int .i64 q) ∧ -1 ≤ q ∧ q ≤ r ∧ (0 ≤ q → m + (k : Int) + q = r)) ∧ Below w.heap.size w w' := by
  have F := szi_in m r h0
  have G := szi_two (m := m) (x := r)
  have b0 := Lib.hid (below_new w (.cells #[.int .i64 x, .slice V m d, .slice U k e, .int .i64 y] 52))
  by_cases h2 : szi m r < 0
  · have R := Lib.hid (G.1 h2)
    go_enter Tryz.func18, Tryz.ntmps18
    go_wp2_with fail
    refine (szIntS_any V m d r _ hm h0 h1).mono ?_
    rintro e w2 ⟨rfl, rfl⟩
    clear F G
    generalize szi m r = q at *
    go_wp2
    go_ret
    exact ⟨⟨-1, rfl, by omega, by omega, fun h => absurd h (by omega)⟩, b0.out⟩
  have F2 := szi_in k (szi m r) (by omega)
  have G2 := szi_two (m := k) (x := szi m r)
  by_cases h3 : szi k (szi m r) < 0
  all_goals
    go_enter Tryz.func18, Tryz.ntmps18
    go_wp2_with fail
    refine (szIntS_any V m d r _ hm h0 h1).mono ?_
    rintro e w2 ⟨rfl, rfl⟩
    generalize szi m r = q at *
    go_wp2_with fail
    refine (szIntS_any U k _ q _ hk (by omega) (by omega)).mono ?_
    rintro e w3 ⟨rfl, rfl⟩
    generalize szi k q = p at *
    go_wp2
    go_ret
    first | exact ⟨⟨-1, rfl, by omega, by omega, fun h => absurd h (by omega)⟩, b0.out⟩ | exact ⟨⟨p, rfl, by omega, by omega, fun h => by omega⟩, b0.out⟩

set_option maxHeartbeats 800000 in
theorem szTableS_any (A : Option Addr) (n c : Nat) (k0 : Int) (ts : List TabD) (w : World) (hx : TabsL w A n ts) (hs : ∀ j, j < n → (tX ts j).vars.length ≤ 9223372036854775807 ∧ (tX ts j).wh.length ≤ 9223372036854775807) (hn : n ≤ 9223372036854775807) (h0 : 0 ≤ k0) (h1 : k0 ≤ 1099511627776) :
    Calls Tryz.prog 50 #[.slice A n c, .int .i64 k0] w fun e w' => (∃ r, e = .returned (.int .i64 r) ∧ -1 ≤ r ∧ r ≤ k0 ∧ (0 ≤ r → n + r ≤ k0 ∧ ∀ j, j < n → ((tX ts j).vars.length : Int) ≤ k0 ∧ ((tX ts j).wh.length : Int) ≤ k0)) ∧ Below w.heap.size w w' := by
  go_enter Tryz.func50, Tryz.ntmps50
  by_cases hlt : k0 - n < 0
  · go_wp2
    go_ret
    exact ⟨⟨-1, rfl, by omega, by omega, fun h => absurd h (by omega)⟩, Below.refl _ _⟩
  go_wp2
  go_loopw [1, 5] (fun a i wr => ∃ (j : Nat) (r : Int), j ≤ n ∧ i = .int .i64 j ∧ a = .int .i64 r ∧ 0 ≤ r ∧ r ≤ k0 - n ∧ Hid (∀ t, t < j → ((tX ts t).vars.length : Int) ≤ k0 ∧ ((tX ts t).wh.length : Int) ≤ k0) ∧ Below w.heap.size w wr) (fun _ i _ => n - (intOf i).toNat)
  case atStart => exact ⟨0, k0 - n, Nat.zero_le _, rfl, by go_num, by omega, by omega, Lib.hid fun t ht => absurd ht (by omega), Below.refl _ _⟩
  case round =>
    obtain ⟨j, r, hj, rfl, rfl, hr0, hr1, hall, hbw⟩ := hrel
    by_cases hjn : j < n
    · obtain ⟨ad, rfl, hc0, hc3, ⟨V, m, d, hc1, hv⟩, U, k, e, hc2, hu⟩ := (hx.below hbw).at_ hjn
      have hsm : m ≤ 9223372036854775807 := by have := (hs j hjn).1; rw [hv.1] at this; exact this
      have hsk : k ≤ 9223372036854775807 := by have := (hs j hjn).2; rw [hu.1] at this; exact this
      have Q := Lib.hid (fun (h1 : (m : Int) ≤ k0) (h2 : (k : Int) ≤ k0) => (show ∀ t, t < j + 1 → ((tX ts t).vars.length : Int) ≤ k0 ∧ ((tX ts t).wh.length : Int) ≤ k0 from fun t ht => by
        rcases Nat.lt_or_ge t j with h | h
        · exact hall.out t h
        · obtain rfl : t = j := by omega
          rw [hv.1, hu.1]
          exact ⟨h1, h2⟩))
      clear hx hs hall hv hu
      obtain ⟨x, hxe⟩ : ∃ x, (tX ts j).lv = x := ⟨_, rfl⟩
      obtain ⟨y, hye⟩ : ∃ y, (tX ts j).sum = y := ⟨_, rfl⟩
      rw [hxe] at hc0
      rw [hye] at hc3
      clear hxe hye
      go_wp2_with fail
      refine (szTable_any x y V U m d k e r _ hsm hsk hr0 (by omega)).mono ?_
      rintro e2 w2 ⟨⟨q, rfl, hq0, hq1, hq2⟩, hb2⟩
      have hb3 := Lib.hid (hbw.trans (hb2.mono hbw.size))
      clear hb2 hbw
      by_cases hneg : q < 0
      · clear hq2
        go_wp2
        go_ret
        exact ⟨⟨-1, rfl, by omega, by omega, fun h => absurd h (by omega)⟩, hb3.out⟩
      · have hq3 := hq2 (by omega)
        have HQ := Lib.hid (Q.out (by omega) (by omega))
        clear hq2 hq3
        go_wp2
        go_roundw
        case rel => exact ⟨j + 1, q, by omega, by go_num, rfl, by omega, by omega, HQ, hb3.out⟩
        case measure => simp [intOf]; omega
    · obtain rfl : j = n := by omega
      go_wp2
      go_ret
      exact ⟨⟨r, rfl, by omega, by omega, fun _ => ⟨by omega, hall.out⟩⟩, hbw⟩

set_option maxHeartbeats 800000 in
theorem eqTable_any (x y : Int) (V U V' U' : Option Addr) (m d k e d' e' : Nat) (xs ys : List Int) (w : World) (hv : Ints w V m xs) (hv' : Ints w V' m xs) (hu : Ints w U k ys) (hu' : Ints w U' k ys) (hm : m ≤ 1099511627776) (hk : k ≤ 1099511627776) :
    Calls Tryz.prog 22 #[.agg #[.int .i64 x, .slice V m d, .slice U k e, .int .i64 y], .agg #[.int .i64 x, .slice V' m d', .slice U' k e', .int .i64 y]] w fun e w' => e = .returned (.bool true) ∧ Below w.heap.size w w' := by
  obtain ⟨b0, x2, x3⟩ := box_two w #[.int .i64 x, .slice V m d, .slice U k e, .int .i64 y] #[.int .i64 x, .slice V' m d', .slice U' k e', .int .i64 y] 56 56
  have HV := Lib.hid (hv.below b0)
  have HV' := Lib.hid (hv'.below b0)
  have HU := Lib.hid (hu.below b0)
  have HU' := Lib.hid (hu'.below b0)
  have HB := Lib.hid b0
  have l2 := lt_of_block x2
  have l3 := lt_of_block x3
  have c20 := box_cell x2 0 _ rfl
  have c21 := box_cell x2 1 _ rfl
  have c22 := box_cell x2 2 _ rfl
  have c23 := box_cell x2 3 _ rfl
  have c30 := box_cell x3 0 _ rfl
  have c31 := box_cell x3 1 _ rfl
  have c32 := box_cell x3 2 _ rfl
  have c33 := box_cell x3 3 _ rfl
  clear hv hv' hu hu' b0 x2 x3
  go_enter Tryz.func22, Tryz.ntmps22
  go_wp2_with fail
  refine (eqIntS_true _ _ m _ _ xs _ HV.out HV'.out hm).mono ?_
  rintro e w2 ⟨rfl, q, rfl⟩
  go_wp2_with fail
  refine (eqIntS_true _ _ k _ _ ys _ (by exact HU.out) (by exact HU'.out) hk).mono ?_
  rintro e w3 ⟨rfl, q2, rfl⟩
  go_wp2
  go_ret
  exact ⟨rfl, by first | exact below_drewN (below_drewN HB.out q) q2 | exact below_drewN HB.out _⟩

set_option maxHeartbeats 800000 in
theorem eqTableS_any (A A' : Option Addr) (n c c' : Nat) (ts : List TabD) (w : World) (hx : TabsL w A n ts) (hy : TabsL w A' n ts) (hn : n ≤ 1099511627776) (hs : ∀ j, j < n → (tX ts j).vars.length ≤ 1099511627776 ∧ (tX ts j).wh.length ≤ 1099511627776) :
    Calls Tryz.prog 68 #[.slice A n c, .slice A' n c'] w fun e w' => e = .returned (.bool true) ∧ Below w.heap.size w w' := by
  go_enter Tryz.func68, Tryz.ntmps68
  go_wp2
  go_loopw [5] (fun i wr => ∃ (k : Nat), k ≤ n ∧ i = .int .i64 k ∧ Below w.heap.size w wr) (fun i _ => n - (intOf i).toNat)
  case atStart => exact ⟨0, Nat.zero_le _, rfl, Below.refl _ _⟩
  case round =>
    obtain ⟨j, hj, rfl, hbw⟩ := hrel
    by_cases hlt : j < n
    · obtain ⟨ad, rfl, hc0, hc3, ⟨V, m, d, hc1, hv⟩, U, k, e, hc2, hu⟩ := (hx.below hbw).at_ hlt
      obtain ⟨ad', rfl, hd0, hd3, ⟨V', m', d', hd1, hv'⟩, U', k', e', hd2, hu'⟩ := (hy.below hbw).at_ hlt
      have hm : m ≤ 1099511627776 := by have := (hs j hlt).1; rw [hv.1] at this; exact this
      have hk : k ≤ 1099511627776 := by have := (hs j hlt).2; rw [hu.1] at this; exact this
      obtain rfl : m' = m := hv'.1.symm.trans hv.1
      obtain rfl : k' = k := hu'.1.symm.trans hu.1
      clear hx hy hs
      obtain ⟨t, hte⟩ : ∃ t, tX ts j = t := ⟨_, rfl⟩
      rw [hte] at hc0 hc3 hd0 hd3 hv hv' hu hu'
      clear hte
      have HV := Lib.hid hv
      have HV' := Lib.hid hv'
      have HU := Lib.hid hu
      have HU' := Lib.hid hu'
      clear hv hv' hu hu'
      have hsz := hbw.size
      have l0 := block_lt_of_cell hc0
      have l1 := block_lt_of_cell hc1
      have l2 := block_lt_of_cell hc2
      have l3 := block_lt_of_cell hc3
      have m0 := block_lt_of_cell hd0
      have m1 := block_lt_of_cell hd1
      have m2 := block_lt_of_cell hd2
      have m3 := block_lt_of_cell hd3
      have BL := (Below.refl wr.heap.size wr).drew
      go_wp2
      go_region_held3 (fun w2 => (w2.cell? (ad.add (j * 4)) = some (.int .i64 t.lv) ∧ w2.cell? ⟨(ad.add (j * 4)).block, (ad.add (j * 4)).off + 1, none⟩ = some (.slice V m' d) ∧ w2.cell? ⟨(ad.add (j * 4)).block, (ad.add (j * 4)).off + 2, none⟩ = some (.slice U k' e) ∧ w2.cell? ⟨(ad.add (j * 4)).block, (ad.add (j * 4)).off + 3, none⟩ = some (.int .i64 t.sum)) ∧ w2.cell? (ad'.add (j * 4)) = some (.int .i64 t.lv) ∧ w2.cell? ⟨(ad'.add (j * 4)).block, (ad'.add (j * 4)).off + 1, none⟩ = some (.slice V' m' d') ∧ w2.cell? ⟨(ad'.add (j * 4)).block, (ad'.add (j * 4)).off + 2, none⟩ = some (.slice U' k' e') ∧ w2.cell? ⟨(ad'.add (j * 4)).block, (ad'.add (j * 4)).off + 3, none⟩ = some (.int .i64 t.sum)) (first | exact ⟨⟨z0, z1, z2, z3⟩, z4, z5, z6, z7⟩ | exact ⟨⟨hc0, hc1, hc2, hc3⟩, hd0, hd1, hd2, hd3⟩) ((go_at_call 22; refine (eqTable_any t.lv t.sum V U V' U' m' d k' e d' e' t.vars t.wh _ (HV.out.below BL) (HV'.out.below BL) (HU.out.below BL) (HU'.out.below BL) hm hk).mono ?_; rintro e2 w2 ⟨rfl, hb2⟩; have z0 := (hb2.cell (by exact l0)).trans hc0; have z1 := (hb2.cell (by exact l1)).trans hc1; have z2 := (hb2.cell (by exact l2)).trans hc2; have z3 := (hb2.cell (by exact l3)).trans hc3; have z4 := (hb2.cell (by exact m0)).trans hd0; have z5 := (hb2.cell (by exact m1)).trans hd1; have z6 := (hb2.cell (by exact m2)).trans hd2; have z7 := (hb2.cell (by exact m3)).trans hd3; have hbw2 := Lib.hid (hbw.trans ((BL.trans (hb2.mono BL.size)).mono hsz)); clear hb2))
      clear z0 z1 z2 z3 z4 z5 z6 z7
      go_wp2
      go_roundw
      case rel => exact ⟨j + 1, by omega, by go_num, hbw2.out⟩
      case measure => simp [intOf]; omega
    · go_wp2
      go_ret
      exact ⟨rfl, hbw⟩
end

section
open Go.RowKit

set_option maxHeartbeats 800000 in
theorem toTable_any (x y : Int) (A E : Option Addr) (m c k c2 : Nat) (xs ys : List Int) (w : World) (hx : Ints w A m xs) (hy : Ints w E k ys) (hm : m ≤ 1099511627776) (hk : k ≤ 1099511627776) :
    Calls Tryz.prog 20 #[.agg #[.int .i64 x, .slice A m c, .slice E k c2, .int .i64 y]] w fun e w' => ∃ V c3 U c4 mid, e = .returned (.agg #[.int .i64 x, .slice V m c3, .slice U k c4, .int .i64 y]) ∧ OwnI w' w.heap.size mid V m c3 xs ∧ OwnI w' mid w'.heap.size U k c4 ys ∧ w.heap.size ≤ mid ∧ mid ≤ w'.heap.size ∧ Below w.heap.size w w' := by
  obtain ⟨b0, x1, x2, x3, S⟩ := box_three w #[.int .i64 x, .slice A m c, .slice E k c2, .int .i64 y] #[.int .i64 0, .slice none 0 0, .slice none 0 0, .int .i64 0] #[.int .i64 x, .slice none 0 0, .slice none 0 0, .int .i64 0] 52 56 56
  have HS := Lib.hid S
  clear S
  have HX := Lib.hid (hx.below b0)
  have HY := Lib.hid hy
  clear hx hy
  have l1 := lt_of_block x1
  have c10 := box_cell x1 0 (.int .i64 x) rfl
  have c11 := box_cell x1 1 (.slice A m c) rfl
  have c12 := box_cell x1 2 (.slice E k c2) rfl
  have c13 := box_cell x1 3 (.int .i64 y) rfl
  go_enter Tryz.func20, Tryz.ntmps20
  go_wp2_with fail
  refine (toIntS_law _ _ _ xs _ HX.out hm).mono ?_
  rintro e w2 ⟨V, c3, rfl, o2, hb2⟩
  generalize (((w.alloc (.cells #[.int .i64 x, .slice A m c, .slice E k c2, .int .i64 y] 52)).alloc (.cells #[.int .i64 0, .slice none 0 0, .slice none 0 0, .int .i64 0] 56)).alloc (.cells #[.int .i64 x, .slice none 0 0, .slice none 0 0, .int .i64 0] 56)) = w1 at *
  have y1 := box_below x1 hb2
  have y2 := box_below x2 hb2
  have y3 := box_below x3 hb2
  have hs2 := hb2.size
  have HB := Lib.hid (b0.trans (hb2.mono b0.size))
  clear c10 c11 c12 c13 l1 x1 x2 x3 hb2 b0 HX
  have g3 : w.heap.size + 1 + 1 < w1.heap.size := by rw [HS.out]; omega
  have K1 := (Chg.refl (w.heap.size + 1) (w.heap.size + 1 + 1 + 1) w2).set (g := w.heap.size + 1 + 1) (i := 1) (v := .slice V m c3) (by omega) (by omega)
  have y1s := Lib.hid (show (w2.setCell ⟨w.heap.size + 1 + 1, 1, none⟩ (.slice V m c3)).heap[w.heap.size]? = _ from (Below.heap_setCell w2 ⟨w.heap.size + 1 + 1, 1, none⟩ (.slice V m c3) w.heap.size (by simp; omega)).trans y1)
  have y2s := Lib.hid (show (w2.setCell ⟨w.heap.size + 1 + 1, 1, none⟩ (.slice V m c3)).heap[w.heap.size + 1]? = _ from (Below.heap_setCell w2 ⟨w.heap.size + 1 + 1, 1, none⟩ (.slice V m c3) (w.heap.size + 1) (by simp)).trans y2)
  have y3s := Lib.hid (box_set y3 1 (.slice V m c3))
  have HB1 := Lib.hid (HB.out.setCell (p := ⟨w.heap.size + 1 + 1, 1, none⟩) (by simp; omega) (.slice V m c3))
  have HO1 := Lib.hid (o2.chg K1 (.inr (by omega)))
  have hz3 : (w2.setCell ⟨w.heap.size + 1 + 1, 1, none⟩ (.slice V m c3)).heap.size = w2.heap.size := by simp
  have HZ3 := Lib.hid hz3
  have l1 := lt_of_block y1
  have l3 := lt_of_block y3
  have c10 := box_cell y1 0 (.int .i64 x) rfl
  have c11 := box_cell y1 1 (.slice A m c) rfl
  have c12 := box_cell y1 2 (.slice E k c2) rfl
  have c13 := box_cell y1 3 (.int .i64 y) rfl
  have c31 := box_cell y3 1 (.slice none 0 0) rfl
  have f31 := box_free y3 1
  clear hz3 K1 y1 y2 y3 o2 HB
  go_wp2_with fail
  clear c10 c11 c12 c13 c31 f31 l1 l3
  refine (toIntS_law _ _ _ ys _ (HY.out.below HB1.out) hk).mono ?_
  generalize w2.setCell ⟨w.heap.size + 1 + 1, 1, none⟩ (.slice V m c3) = w3 at *
  rintro e w4 ⟨U, c4, rfl, o4, hb4⟩
  have y1 := box_below y1s.out hb4
  have y2 := box_below y2s.out hb4
  have y3 : w4.heap[w.heap.size + 1 + 1]? = some (.cells #[.int .i64 x, .slice V m c3, .slice none 0 0, .int .i64 0] 56 (0, 0)) := box_below y3s.out hb4
  have hs4 := hb4.size
  rw [HZ3.out] at hs4
  have HO2 := Lib.hid (HO1.out.below hb4)
  have HO4 := Lib.hid o4
  have HB4 := Lib.hid (HB1.out.trans (hb4.mono HB1.out.size))
  have s0 := HB1.out.size
  rw [HZ3.out] at s0
  clear hb4 o4 y1s y2s y3s HO1 HB1
  have l1 := lt_of_block y1
  have l2 := lt_of_block y2
  have l3 := lt_of_block y3
  have c13 := box_cell y1 3 (.int .i64 y) rfl
  have c20 := box_cell y2 0 (.int .i64 0) rfl
  have c21 := box_cell y2 1 (.slice none 0 0) rfl
  have c22 := box_cell y2 2 (.slice none 0 0) rfl
  have c23 := box_cell y2 3 (.int .i64 0) rfl
  have c30 := box_cell y3 0 (.int .i64 x) rfl
  have c31 := box_cell y3 1 (.slice V m c3) rfl
  have c32 := box_cell y3 2 (.slice none 0 0) rfl
  have c33 := box_cell y3 3 (.int .i64 0) rfl
  have f32 := box_free y3 2
  have f33 := box_free y3 3
  have f20 := box_free y2 0
  have f21 := box_free y2 1
  have f22 := box_free y2 2
  have f23 := box_free y2 3
  clear y1 y2 y3
  go_wp2
  refine bodyPost_ret (v := .agg #[.int .i64 x, .slice V m c3, .slice U k c4, .int .i64 y]) (by simp [results, Tryz.results20, go_sem, c20, c21, c22, c23]) rfl ⟨V, c3, U, c4, w2.heap.size, rfl, ?_, ?_, by omega, by simp; omega, (((((HB4.out.setCell (by simp; omega) _).setCell (by simp; omega) _).setCell (by simp) _).setCell (by simp) _).setCell (by simp) _).setCell (by simp) _⟩
  · have h9 := HO2.out.chg ((((((Chg.refl (w.heap.size + 1) (w.heap.size + 1 + 1 + 1) w4).set (g := w.heap.size + 1 + 1) (i := 2) (v := .slice U k c4) (by omega) (by omega)).set (g := w.heap.size + 1 + 1) (i := 3) (v := .int .i64 y) (by omega) (by omega)).set (g := w.heap.size + 1) (i := 0) (v := .int .i64 x) (by omega) (by omega)).set (g := w.heap.size + 1) (i := 1) (v := .slice V m c3) (by omega) (by omega)).set (g := w.heap.size + 1) (i := 2) (v := .slice U k c4) (by omega) (by omega) |>.set (g := w.heap.size + 1) (i := 3) (v := .int .i64 y) (by omega) (by omega)) (.inr (by omega))
    exact ⟨h9.own.mono (by omega), h9.top, h9.small⟩
  · have h9 := HO4.out.chg ((((((Chg.refl (w.heap.size + 1) (w.heap.size + 1 + 1 + 1) w4).set (g := w.heap.size + 1 + 1) (i := 2) (v := .slice U k c4) (by omega) (by omega)).set (g := w.heap.size + 1 + 1) (i := 3) (v := .int .i64 y) (by omega) (by omega)).set (g := w.heap.size + 1) (i := 0) (v := .int .i64 x) (by omega) (by omega)).set (g := w.heap.size + 1) (i := 1) (v := .slice V m c3) (by omega) (by omega)).set (g := w.heap.size + 1) (i := 2) (v := .slice U k c4) (by omega) (by omega) |>.set (g := w.heap.size + 1) (i := 3) (v := .int .i64 y) (by omega) (by omega)) (.inr (by rw [HZ3.out]; omega))
    have h10 := h9.fit (lo' := w2.heap.size) (by rw [HZ3.out]; exact Nat.le_refl _)
    exact h10

/-- The rows of a list of tables. -/
def tV (ts : List TabD) (j : Nat) : List Int := (tX ts j).vars
def tW (ts : List TabD) (j : Nat) : List Int := (tX ts j).wh
/-- No row of variables shares its block with a row of conditions. -/
def CrossT (ys : List Value) (n : Nat) : Prop := ∀ i j g, i < n → j < n → (ys[i * 4 + 1]?).bind Value.ownBlock = some g → (ys[j * 4 + 2]?).bind Value.ownBlock ≠ some g
theorem CrossT.cells {ys zs : List Value} {n : Nat} (h : CrossT ys n) (h1 : ∀ j, j < n → zs[j * 4 + 1]? = ys[j * 4 + 1]?) (h2 : ∀ j, j < n → zs[j * 4 + 2]? = ys[j * 4 + 2]?) : CrossT zs n := fun i j g hi hj h3 => by
  rw [h1 i hi] at h3
  rw [h2 j hj]
  exact h i j g hi hj h3
/-- A list of tables of the call's own, in blocks from lo on and below hi. -/
structure OwnTs (w : World) (lo hi : Nat) (A : Option Addr) (n c : Nat) (ts : List TabD) : Prop where
  len : ts.length = n
  cells : ∃ ys, w.ownsRow lo 56 4 (.slice A n c) n ys ∧ (∀ j, j < n → ys[j * 4]? = some (.int .i64 (tX ts j).lv) ∧ ys[j * 4 + 3]? = some (.int .i64 (tX ts j).sum)) ∧ Sub w lo hi ys 4 1 (tV ts) 0 n ∧ Sub w lo hi ys 4 2 (tW ts) 0 n ∧ CrossT ys n
  top : ∀ k, rowOf A = some k → k < hi
  small : n ≤ 1099511627776
section
variable {w w' : World} {A : Option Addr} {n c lo hi : Nat} {ts : List TabD}
theorem OwnTs.keep (h : OwnTs w lo hi A n c ts) (hk : ∀ g, lo ≤ g → g < hi → g < w.heap.size → w'.heap[g]? = w.heap[g]?) : OwnTs w' lo hi A n c ts := by
  obtain ⟨ys, h1, h2, h3, h4, h5⟩ := h.cells
  exact ⟨h.len, ⟨ys, row_keep h1 fun g hl hA hg => hk g hl (h.top g hA) hg, h2, h3.keep hk, h4.keep hk, h5⟩, h.top, h.small⟩
theorem OwnTs.below (h : OwnTs w lo hi A n c ts) (hb : Below w.heap.size w w') : OwnTs w' lo hi A n c ts := h.keep fun g _ _ hg => hb.block g hg
theorem OwnTs.chg {lo' hi' : Nat} (h : OwnTs w lo hi A n c ts) (hc : Chg lo' hi' w w') (hd : hi ≤ lo' ∨ hi' ≤ lo) : OwnTs w' lo hi A n c ts := h.keep fun g h1 h2 hg => hc.block g hg (by omega)
theorem OwnTs.tabsL (h : OwnTs w lo hi A n c ts) : TabsL w A n ts := by
  refine ⟨h.len, fun hn => ?_⟩
  obtain ⟨ys, ho, hf, hs1, hs2, _⟩ := h.cells
  rcases ho.2 with ⟨_, h0⟩ | ⟨g, cap, cur, hv, _⟩
  · omega
  · injection hv with hA _ hc
    subst hA hc
    have hl := ho.1
    refine ⟨_, rfl, fun j hj => ?_⟩
    rw [addr_add0]
    obtain ⟨V, m, e1, hV⟩ := hs1.row j (by omega) hj
    obtain ⟨U, m2, e2, hU⟩ := hs2.row j (by omega) hj
    have := hf j hj
    exact ⟨(World.ownsRow.cellAt ho (j * 4) (by omega)).trans this.1, (World.ownsRow.cellAt ho (j * 4 + 3) (by omega)).trans this.2, ⟨V, _, m, (World.ownsRow.cellAt ho (j * 4 + 1) (by omega)).trans e1, hV.ints⟩, U, _, m2, (World.ownsRow.cellAt ho (j * 4 + 2) (by omega)).trans e2, hU.ints⟩
theorem OwnTs.tabs (h : OwnTs w lo hi A n c ts) (hs : ∀ j, j < n → (tX ts j).vars.length ≤ 1099511627776 ∧ (tX ts j).wh.length ≤ 1099511627776) : TabsR w A n ts := h.tabsL.tabs h.small hs
end
theorem Tryz.infoTable : (Tryz.prog.info? 56).map (fun i => (i.zero, i.size, i.bytes)) = some (some (.agg #[.int .i64 0, .slice none 0 0, .slice none 0 0, .int .i64 0]), 4, 64) := by kernel_rfl
/-- The cells ys agree with the tables' numbers below k; the rows from k on are nil. -/
def AgreeT (ts : List TabD) (ys : List Value) (n k : Nat) : Prop := ys.length = n * 4 ∧ (∀ t, t < k → ys[t * 4]? = some (.int .i64 (tX ts t).lv) ∧ ys[t * 4 + 3]? = some (.int .i64 (tX ts t).sum)) ∧ ∀ t, k ≤ t → t < n → ys[t * 4 + 1]? = some (.slice none 0 0) ∧ ys[t * 4 + 2]? = some (.slice none 0 0)
def four (ys : List Value) (k : Nat) (a b c d : Value) : List Value := (((ys.set (k * 4) a).set (k * 4 + 1) b).set (k * 4 + 2) c).set (k * 4 + 3) d
theorem four_ne {ys : List Value} {k j p : Nat} {a b c d : Value} (hp : p < 4) (h : j ≠ k) : (four ys k a b c d)[j * 4 + p]? = ys[j * 4 + p]? := by
  unfold four
  rw [List.getElem?_set_ne (by omega), List.getElem?_set_ne (by omega), List.getElem?_set_ne (by omega), List.getElem?_set_ne (by omega)]
theorem four_at {ys : List Value} {k n : Nat} {a b c d : Value} (hl : ys.length = n * 4) (hk : k < n) : (four ys k a b c d)[k * 4]? = some a ∧ (four ys k a b c d)[k * 4 + 1]? = some b ∧ (four ys k a b c d)[k * 4 + 2]? = some c ∧ (four ys k a b c d)[k * 4 + 3]? = some d := by
  unfold four
  refine ⟨?_, ?_, ?_, ?_⟩
  · rw [List.getElem?_set_ne (by omega), List.getElem?_set_ne (by omega), List.getElem?_set_ne (by omega), List.getElem?_set_self (by omega)]
  · rw [List.getElem?_set_ne (by omega), List.getElem?_set_ne (by omega), List.getElem?_set_self (by simp; omega)]
  · rw [List.getElem?_set_ne (by omega), List.getElem?_set_self (by simp; omega)]
  · rw [List.getElem?_set_self (by simp; omega)]
theorem AgreeT.step {ts : List TabD} {ys : List Value} {n k : Nat} (h : AgreeT ts ys n k) (hk : k < n) (v u : Value) : AgreeT ts (four ys k (.int .i64 (tX ts k).lv) v u (.int .i64 (tX ts k).sum)) n (k + 1) := by
  obtain ⟨h1, h2, h3⟩ := h
  refine ⟨by unfold four; simpa using h1, fun t ht => ?_, fun t ht hn => ?_⟩
  · by_cases e : t = k
    · subst e
      obtain ⟨a1, _, _, a4⟩ := four_at (a := .int .i64 (tX ts t).lv) (b := v) (c := u) (d := .int .i64 (tX ts t).sum) h1 hk
      exact ⟨a1, a4⟩
    · have a1 := four_ne (ys := ys) (a := .int .i64 (tX ts k).lv) (b := v) (c := u) (d := .int .i64 (tX ts k).sum) (p := 0) (by omega) e
      have a4 := four_ne (ys := ys) (a := .int .i64 (tX ts k).lv) (b := v) (c := u) (d := .int .i64 (tX ts k).sum) (p := 3) (by omega) e
      exact ⟨a1.trans (h2 t (by omega)).1, a4.trans (h2 t (by omega)).2⟩
  · have e : t ≠ k := by omega
    exact ⟨(four_ne (by omega) e).trans (h3 t (by omega) hn).1, (four_ne (by omega) e).trans (h3 t (by omega) hn).2⟩
theorem madeTabs (n : Nat) : ∀ t, t < n → (madeCells (Value.agg #[.int .i64 0, .slice none 0 0, .slice none 0 0, .int .i64 0]).cells (n * 4)).toList[t * 4 + 1]? = some (.slice none 0 0) ∧ (madeCells (Value.agg #[.int .i64 0, .slice none 0 0, .slice none 0 0, .int .i64 0]).cells (n * 4)).toList[t * 4 + 2]? = some (.slice none 0 0) := fun t ht => by
  constructor
  · rw [made_at _ _ _ (by omega)]
    have : (t * 4 + 1) % 4 = 1 := by omega
    simp [Value.cells, this]
  · rw [made_at _ _ _ (by omega)]
    have : (t * 4 + 2) % 4 = 2 := by omega
    simp [Value.cells, this]
theorem row_four {w : World} {lo n c g k : Nat} {T : TypeId} {ys : List Value} (h : w.ownsRow lo T 4 (.slice (some ⟨g, 0, none⟩) n c) n ys) (hk : k < n) :
    (∃ u, w.cell? ⟨g, k * 4, none⟩ = some u) ∧ (∃ u, w.cell? ⟨g, k * 4 + 1, none⟩ = some u) ∧ (∃ u, w.cell? ⟨g, k * 4 + 2, none⟩ = some u) ∧ (∃ u, w.cell? ⟨g, k * 4 + 3, none⟩ = some u) ∧ w.frozen? ⟨g, k * 4, none⟩ = false ∧ w.frozen? ⟨g, k * 4 + 1, none⟩ = false ∧ w.frozen? ⟨g, k * 4 + 2, none⟩ = false ∧ w.frozen? ⟨g, k * 4 + 3, none⟩ = false := by
  have hl := h.1
  refine ⟨⟨ys[k * 4]'(by omega), ?_⟩, ⟨ys[k * 4 + 1]'(by omega), ?_⟩, ⟨ys[k * 4 + 2]'(by omega), ?_⟩, ⟨ys[k * 4 + 3]'(by omega), ?_⟩, World.ownsRow.frozenAt h _, World.ownsRow.frozenAt h _, World.ownsRow.frozenAt h _, World.ownsRow.frozenAt h _⟩
  · rw [World.ownsRow.cellAt h _ (by omega), List.getElem?_eq_getElem]
  · rw [World.ownsRow.cellAt h _ (by omega), List.getElem?_eq_getElem]
  · rw [World.ownsRow.cellAt h _ (by omega), List.getElem?_eq_getElem]
  · rw [World.ownsRow.cellAt h _ (by omega), List.getElem?_eq_getElem]
/-- Four stores into a row of tables. -/
def put4 (w : World) (g k : Nat) (a b c d : Value) : World := (((w.setCell ⟨g, k * 4, none⟩ a).setCell ⟨g, k * 4 + 1, none⟩ b).setCell ⟨g, k * 4 + 2, none⟩ c).setCell ⟨g, k * 4 + 3, none⟩ d
theorem put4_row {w : World} {lo n c0 g k : Nat} {T : TypeId} {ys : List Value} (o : w.ownsRow lo T 4 (.slice (some ⟨g, 0, none⟩) n c0) n ys) (a b c d : Value) : (put4 w g k a b c d).ownsRow lo T 4 (.slice (some ⟨g, 0, none⟩) n c0) n (four ys k a b c d) :=
  (World.ownsRow.stored (World.ownsRow.stored (World.ownsRow.stored (World.ownsRow.stored o (k * 4) a).1 (k * 4 + 1) b).1 (k * 4 + 2) c).1 (k * 4 + 3) d).1
theorem put4_sub {w : World} {lo lo2 hi n c0 g k st pos q0 m : Nat} {ys zs : List Value} {L : Nat → List Int} (s : Sub w lo hi zs st pos L q0 m) (o : w.ownsRow lo2 56 4 (.slice (some ⟨g, 0, none⟩) n c0) n ys) (a b c d : Value) : Sub (put4 w g k a b c d) lo hi zs st pos L q0 m := by
  have a1 := (World.ownsRow.stored o (k * 4) a).1
  have a2 := (World.ownsRow.stored a1 (k * 4 + 1) b).1
  have a3 := (World.ownsRow.stored a2 (k * 4 + 2) c).1
  exact (((s.farRow o (by decide)).farRow a1 (by decide)).farRow a2 (by decide)).farRow a3 (by decide)
theorem below_put4 {w0 w : World} {B g k : Nat} {a b c d : Value} (h : Below B w0 w) (hg : B ≤ g) : Below B w0 (put4 w g k a b c d) := (((h.setCell (by exact hg) _).setCell (by exact hg) _).setCell (by exact hg) _).setCell (by exact hg) _
theorem put4_size {w : World} {g k : Nat} {a b c d : Value} : (put4 w g k a b c d).heap.size = w.heap.size := by unfold put4; simp
theorem newRow {w w2 : World} {lo hi c m : Nat} {V : Option Addr} {l : List Int} (_hb : Below w.heap.size w w2) (hlo : w.heap.size ≤ lo) (hv : OwnI w2 lo hi V m c l) {g : Nat} (h : rowOf V = some g) : w.heap.size ≤ g := Nat.le_trans hlo (hv.own.row_ge g h).1

/-- One round of the turning of tables. -/
theorem tabs_step {wr w2 : World} {lo k n m1 m2 c1 c2 g mid : Nat} {V U : Option Addr} {ts : List TabD} {ys : List Value} (hag : AgreeT ts ys n k) (ho : wr.ownsRow lo 56 4 (.slice (some ⟨g, 0, none⟩) n n) n ys) (hs1 : Sub wr lo wr.heap.size ys 4 1 (upTo (tV ts) k) 0 n) (hs2 : Sub wr lo wr.heap.size ys 4 2 (upTo (tW ts) k) 0 n) (hcr : CrossT ys n)
    (hlo : lo ≤ wr.heap.size) (hk : k < n) (hb : Below wr.heap.size wr w2) (hV : (tV ts k).length = m1) (hU : (tW ts k).length = m2) (hv : OwnI w2 wr.heap.size mid V m1 c1 (tV ts k)) (hu : OwnI w2 mid w2.heap.size U m2 c2 (tW ts k)) (hmid : wr.heap.size ≤ mid) :
    ∃ zs, AgreeT ts zs n (k + 1) ∧ (put4 w2 g k (.int .i64 (tX ts k).lv) (.slice V m1 c1) (.slice U m2 c2) (.int .i64 (tX ts k).sum)).ownsRow lo 56 4 (.slice (some ⟨g, 0, none⟩) n n) n zs ∧
      Sub (put4 w2 g k (.int .i64 (tX ts k).lv) (.slice V m1 c1) (.slice U m2 c2) (.int .i64 (tX ts k).sum)) lo w2.heap.size zs 4 1 (upTo (tV ts) (k + 1)) 0 n ∧
      Sub (put4 w2 g k (.int .i64 (tX ts k).lv) (.slice V m1 c1) (.slice U m2 c2) (.int .i64 (tX ts k).sum)) lo w2.heap.size zs 4 2 (upTo (tW ts) (k + 1)) 0 n ∧ CrossT zs n := by
  subst hV hU
  have o2 := row_below ho hb
  have t1 := hs1.set (V2 := V) (c2 := c1) (l := tV ts k) (i := k) (w' := w2) (by omega) hk hag.1 (hag.2.2 k (Nat.le_refl _) hk).1 (grown_none hb _) (hv.own.mono hlo) hv.small (by
    cases e : rowOf V with
    | none => exact .inl rfl
    | some b => exact .inr (.inr ⟨b, rfl, newRow hb (Nat.le_refl _) hv e⟩))
  have t2 := hs2.set (V2 := U) (c2 := c2) (l := tW ts k) (i := k) (w' := w2) (by omega) hk hag.1 (hag.2.2 k (Nat.le_refl _) hk).2 (grown_none hb _) (hu.own.mono (by omega)) hu.small (by
    cases e : rowOf U with
    | none => exact .inl rfl
    | some b => exact .inr (.inr ⟨b, rfl, newRow hb hmid hu e⟩))
  rw [upTo_step] at t1 t2
  have F := four_at (a := .int .i64 (tX ts k).lv) (b := .slice V (tV ts k).length c1) (c := .slice U (tW ts k).length c2) (d := .int .i64 (tX ts k).sum) hag.1 hk
  have oldV : ∀ j, j < n → ∀ g, (ys[j * 4 + 1]?).bind Value.ownBlock = some g → g < wr.heap.size := fun j hj g hgj => by
    obtain ⟨V3, c3, e3, ho3⟩ := hs1.row j (by omega) hj
    rw [e3] at hgj
    exact (ho3.own.row_ge g (by simpa [ownBlock_rowOf] using hgj)).2
  have oldU : ∀ j, j < n → ∀ g, (ys[j * 4 + 2]?).bind Value.ownBlock = some g → g < wr.heap.size := fun j hj g hgj => by
    obtain ⟨V3, c3, e3, ho3⟩ := hs2.row j (by omega) hj
    rw [e3] at hgj
    exact (ho3.own.row_ge g (by simpa [ownBlock_rowOf] using hgj)).2
  refine ⟨_, hag.step hk _ _, put4_row o2 _ _ _ _, ?_, ?_, ?_⟩
  · refine (put4_sub t1 o2 _ _ _ _).cells fun j _ hj => ?_
    by_cases e : j = k
    · subst e
      rw [F.2.1, List.getElem?_set_self (by have := hag.1; omega)]
    · rw [four_ne (by omega) e, List.getElem?_set_ne (by omega)]
  · refine (put4_sub t2 o2 _ _ _ _).cells fun j _ hj => ?_
    by_cases e : j = k
    · subst e
      rw [F.2.2.1, List.getElem?_set_self (by have := hag.1; omega)]
    · rw [four_ne (by omega) e, List.getElem?_set_ne (by omega)]
  · intro i j b hi hj h1 h2
    by_cases ei : i = k
    · subst ei
      rw [F.2.1] at h1
      have h1' : rowOf V = some b := by simpa [ownBlock_rowOf] using h1
      by_cases ej : j = i
      · subst ej
        rw [F.2.2.1] at h2
        have h2' : rowOf U = some b := by simpa [ownBlock_rowOf] using h2
        have a1 := hv.top b h1'
        have a2 := (hu.own.row_ge b h2').1
        omega
      · rw [four_ne (by omega) ej] at h2
        have a1 := oldU j hj b h2
        have a2 := newRow hb (Nat.le_refl _) hv h1'
        omega
    · rw [four_ne (by omega) ei] at h1
      by_cases ej : j = k
      · subst ej
        rw [F.2.2.1] at h2
        have h2' : rowOf U = some b := by simpa [ownBlock_rowOf] using h2
        have a1 := oldV i hi b h1
        have a2 := newRow hb hmid hu h2'
        omega
      · rw [four_ne (by omega) ej] at h2
        exact hcr i j b hi hj h1 h2

set_option maxHeartbeats 1600000 in
theorem toTableS_law (A : Option Addr) (n c : Nat) (ts : List TabD) (w : World) (hx : TabsL w A n ts) (hn : n ≤ 1099511627776) (hs : ∀ j, j < n → (tX ts j).vars.length ≤ 1099511627776 ∧ (tX ts j).wh.length ≤ 1099511627776) :
    Calls Tryz.prog 55 #[.slice A n c] w fun e w' => ∃ A' c', e = .returned (.slice A' n c') ∧ n ≤ c' ∧ OwnTs w' w.heap.size w'.heap.size A' n c' ts ∧ Below w.heap.size w w' := by
  obtain ⟨i0, hi, hz0, hz1, hz2⟩ := info_parts Tryz.infoTable
  go_enter Tryz.func55, Tryz.ntmps55
  go_wp2_with (at_make; refine wpList_make_full _ rfl _ _ 39 rfl w.heap.size 56 i0 _ 4 Tryz.underlying39 hi hz0 hz1 .i64 .i64 _ _ n rfl rfl rfl rfl (by rw [hz2]; omega) (by unfold maxLen; omega) (Nat.le_refl _) ?_; intro w1 hown hg)
  have hA : AgreeT ts (madeCells (Value.agg #[.int .i64 0, .slice none 0 0, .slice none 0 0, .int .i64 0]).cells (n * 4)).toList n 0 := ⟨hown.1, fun t ht => absurd ht (by omega), fun t _ ht => madeTabs n t ht⟩
  generalize (madeCells (Value.agg #[.int .i64 0, .slice none 0 0, .slice none 0 0, .int .i64 0]).cells (n * 4)).toList = y0 at *
  have hb1 : Below w.heap.size w w1 := (Below.refl _ _).grown hg (Nat.le_refl _) (by simp)
  have hS1 : Sub w1 w.heap.size w1.heap.size y0 4 1 (upTo (tV ts) 0) 0 n := Sub.nils (fun j hj => (hA.2.2 j (Nat.zero_le _) hj).1) (fun j _ => by simp [upTo])
  have hS2 : Sub w1 w.heap.size w1.heap.size y0 4 2 (upTo (tW ts) 0) 0 n := Sub.nils (fun j hj => (hA.2.2 j (Nat.zero_le _) hj).2) (fun j _ => by simp [upTo])
  have hC : CrossT y0 n := fun i j g hi hj h1 _ => by rw [(hA.2.2 i (Nat.zero_le _) hi).1] at h1; cases h1
  clear hg hi hz0 hz1 hz2
  go_loopw [4] (fun i wr => ∃ (k : Nat) (ys : List Value), k ≤ n ∧ i = .int .i64 k ∧ AgreeT ts ys n k ∧ wr.ownsRow w.heap.size 56 4 (.slice (some ⟨w.heap.size, 0, none⟩) n n) n ys ∧ Sub wr w.heap.size wr.heap.size ys 4 1 (upTo (tV ts) k) 0 n ∧ Sub wr w.heap.size wr.heap.size ys 4 2 (upTo (tW ts) k) 0 n ∧ CrossT ys n ∧ Below w.heap.size w wr) (fun i _ => n - (intOf i).toNat)
  case atStart => exact ⟨0, _, Nat.zero_le _, rfl, hA, hown, hS1, hS2, hC, hb1⟩
  case round =>
    clear hA hown hb1 hS1 hS2 hC
    obtain ⟨k, ys, hk, rfl, hag, hown, hsub1, hsub2, hcr, hbw⟩ := hrel
    by_cases hlt : k < n
    · obtain ⟨ad, rfl, hc0, hc3, ⟨V, m, d, hc1, hv⟩, U, q, e, hc2, hu⟩ := (hx.below hbw).at_ hlt
      have hm : m ≤ 1099511627776 := by have := (hs k hlt).1; rw [hv.1] at this; exact this
      have hq : q ≤ 1099511627776 := by have := (hs k hlt).2; rw [hu.1] at this; exact this
      have R1 := Lib.hid (fun w2 V2 c2 U2 c3 mid (hb : Below wr.heap.size wr w2) => tabs_step (m1 := m) (m2 := q) (c1 := c2) (c2 := c3) (V := V2) (U := U2) (mid := mid) hag hown hsub1 hsub2 hcr hbw.size hlt hb hv.1 hu.1)
      have HO := Lib.hid hown
      have HB := Lib.hid hbw
      have HV := Lib.hid hv
      have HU := Lib.hid hu
      clear hx hag hown hbw hsub1 hsub2 hcr hv hu hs
      obtain ⟨x, hxe⟩ : ∃ x, (tX ts k).lv = x := ⟨_, rfl⟩
      obtain ⟨y, hye⟩ : ∃ y, (tX ts k).sum = y := ⟨_, rfl⟩
      rw [hxe] at hc0 R1
      rw [hye] at hc3 R1
      clear hxe hye
      go_wp2_with fail
      refine (toTable_any x y V U m d q e _ _ _ HV.out HU.out hm hq).mono ?_
      rintro e2 w2 ⟨V2, c2, U2, c3, mid, rfl, o1, o2, hm1, hm2, hb2⟩
      obtain ⟨zs, r1, r2, r3, r4, r5⟩ := R1.out w2 V2 c2 U2 c3 mid hb2 o1 o2 hm1
      have R2 := Lib.hid r1
      have R3 := Lib.hid r2
      have R4 := Lib.hid r3
      have R4' := Lib.hid r4
      have RC := Lib.hid r5
      have R5 := Lib.hid (HB.out.trans (hb2.mono HB.out.size))
      have R6 := Lib.hid (row_below HO.out hb2)
      obtain ⟨⟨u0, hu0⟩, ⟨u1, hu1⟩, ⟨u2, hu2⟩, ⟨u3, hu3⟩, hf0, hf1, hf2, hf3⟩ := row_four R6.out hlt
      clear r1 r2 r3 r4 r5 o1 o2 hb2 hc0 hc1 hc2 hc3
      go_wp2
      go_roundw
      case rel => exact ⟨k + 1, zs, by omega, by go_num, R2.out, R3.out, R4.out.fit (Nat.le_refl _), R4'.out.fit (Nat.le_refl _), RC.out, below_put4 R5.out (Nat.le_refl _)⟩
      case measure => simp [intOf]; omega
    · obtain rfl : k = n := by omega
      go_wp2
      go_ret
      refine ⟨_, _, rfl, Nat.le_refl _, ⟨hx.1, ⟨ys, hown, hag.2.1, hsub1.fn fun j _ hj => by simp [upTo, hj], hsub2.fn fun j _ hj => by simp [upTo, hj], hcr⟩, fun g hg => (World.ownsRow.lt hown g (by simpa [rowOf, Value.ownBlock] using hg)).2, hn⟩, hbw⟩
end
end Go.Proofs.YtfanpbfmnckmnaaGreat
