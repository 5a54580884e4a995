/- The laws' helpers on tables: sizes and comparing; printed by gtl.py. -/
import Derived.Test.YtfanpbfmnckmnaaGreatTbsA
import Derived.Test.YtfanpbfmnckmnaaGreatZc
import Derived.Test.YtfanpbfmnckmnaaGreatZg
namespace Go.Proofs.YtfanpbfmnckmnaaGreat
open Go.RowKit

/-- A slice of tables that reads as a list. -/
def TabsL (w : World) (A : Option Addr) (n : Nat) (ts : List TabD) : Prop :=
  ts.length = n ∧ (0 < n → ∃ ad, A = some ad ∧ ∀ j, j < n → w.cell? (ad.add (j * 4)) = some (.int .i64 (tX ts j).lv) ∧ w.cell? ⟨(ad.add (j * 4)).block, (ad.add (j * 4)).off + 3, none⟩ = some (.int .i64 (tX ts j).sum) ∧ (∃ V m c, w.cell? ⟨(ad.add (j * 4)).block, (ad.add (j * 4)).off + 1, none⟩ = some (.slice V m c) ∧ Ints w V m (tX ts j).vars) ∧ ∃ U k c, w.cell? ⟨(ad.add (j * 4)).block, (ad.add (j * 4)).off + 2, none⟩ = some (.slice U k c) ∧ Ints w U k (tX ts j).wh)
section
variable {w w' : World} {A : Option Addr} {n : Nat} {ts : List TabD}
theorem TabsL.at_ {j : Nat} (h : TabsL w A n ts) (hj : j < n) : ∃ ad, A = some ad ∧ w.cell? (ad.add (j * 4)) = some (.int .i64 (tX ts j).lv) ∧ w.cell? ⟨(ad.add (j * 4)).block, (ad.add (j * 4)).off + 3, none⟩ = some (.int .i64 (tX ts j).sum) ∧ (∃ V m c, w.cell? ⟨(ad.add (j * 4)).block, (ad.add (j * 4)).off + 1, none⟩ = some (.slice V m c) ∧ Ints w V m (tX ts j).vars) ∧ ∃ U k c, w.cell? ⟨(ad.add (j * 4)).block, (ad.add (j * 4)).off + 2, none⟩ = some (.slice U k c) ∧ Ints w U k (tX ts j).wh := by
  obtain ⟨ad, e, hc⟩ := h.2 (by omega)
  exact ⟨ad, e, hc j hj⟩
theorem TabsL.nil_ : TabsL w A 0 [] := ⟨rfl, fun h => absurd h (by omega)⟩
theorem TabsL.below (h : TabsL w A n ts) (hb : Below w.heap.size w w') : TabsL w' A n ts :=
  ⟨h.1, fun hn => by
    obtain ⟨ad, e, hc⟩ := h.2 hn
    refine ⟨ad, e, fun j hj => ?_⟩
    obtain ⟨c0, c3, ⟨V, m, c, c1, hi⟩, U, k, c', c2, hi2⟩ := hc j hj
    exact ⟨(hb.cell (block_lt_of_cell c0)).trans c0, (hb.cell (block_lt_of_cell c3)).trans c3, ⟨V, m, c, (hb.cell (block_lt_of_cell c1)).trans c1, hi.below hb⟩, U, k, c', (hb.cell (block_lt_of_cell c2)).trans c2, hi2.below hb⟩⟩
theorem TabsL.drew (h : TabsL w A n ts) : TabsL w.drew A n ts := h
theorem TabsL.tabs (h : TabsL w A n ts) (hn : n ≤ 1099511627776) (hs : ∀ j, j < n → (tX ts j).vars.length ≤ 1099511627776 ∧ (tX ts j).wh.length ≤ 1099511627776) : TabsR w A n ts :=
  ⟨h.1, hn, fun h0 => by
    obtain ⟨ad, e, hc⟩ := h.2 h0
    refine ⟨ad, e, fun j hj => ?_⟩
    obtain ⟨c0, c3, ⟨V, m, c, c1, hi⟩, U, k, c', c2, hi2⟩ := hc j hj
    exact ⟨V, m, c, U, k, c', c0, c1, c2, c3, ⟨hi, by have := (hs j hj).1; rw [hi.1] at this; exact this⟩, ⟨hi2, by have := (hs j hj).2; rw [hi2.1] at this; exact this⟩⟩⟩
end
theorem szi_two {m : Nat} {x : Int} : (szi m x < 0 → szi m x = -1) ∧ (0 ≤ szi m x → (m : Int) + szi m x = x) := by
  unfold szi
  split <;> omega

set_option maxHeartbeats 400000 in
theorem szTable_any (x y : Int) (V U : Option Addr) (m d k e : Nat) (r : Int) (w : World) (hm : m ≤ 9223372036854775807) (hk : k ≤ 9223372036854775807) (h0 : 0 ≤ r) (h1 : r ≤ 1099511627776) :
    Calls Tryz.prog 18 #[.agg #[.int .i64 x, .slice V m d, .slice U k e, .int .i64 y], .int .i64 r] w fun e w' => (∃ q, e = .returned (.int .i64 q) ∧ -1 ≤ q ∧ q ≤ r ∧ (0 ≤ q → m + (k : Int) + q = r)) ∧ Below w.heap.size w w' := by
  have F := szi_in m r h0
  have G := szi_two (m := m) (x := r)
  have b0 := Lib.hid (below_new w (.cells #[.int .i64 x, .slice V m d, .slice U k e, .int .i64 y] 52))
  by_cases h2 : szi m r < 0
  · have R := Lib.hid (G.1 h2)
    go_enter Tryz.func18, Tryz.ntmps18
    go_wp2_with fail
    refine (szIntS_any V m d r _ hm h0 h1).mono ?_
    rintro e w2 ⟨rfl, rfl⟩
    clear F G
    generalize szi m r = q at *
    go_wp2
    go_ret
    exact ⟨⟨-1, rfl, by omega, by omega, fun h => absurd h (by omega)⟩, b0.out⟩
  have F2 := szi_in k (szi m r) (by omega)
  have G2 := szi_two (m := k) (x := szi m r)
  by_cases h3 : szi k (szi m r) < 0
  all_goals
    go_enter Tryz.func18, Tryz.ntmps18
    go_wp2_with fail
    refine (szIntS_any V m d r _ hm h0 h1).mono ?_
    rintro e w2 ⟨rfl, rfl⟩
    generalize szi m r = q at *
    go_wp2_with fail
    refine (szIntS_any U k _ q _ hk (by omega) (by omega)).mono ?_
    rintro e w3 ⟨rfl, rfl⟩
    generalize szi k q = p at *
    go_wp2
    go_ret
    first | exact ⟨⟨-1, rfl, by omega, by omega, fun h => absurd h (by omega)⟩, b0.out⟩ | exact ⟨⟨p, rfl, by omega, by omega, fun h => by omega⟩, b0.out⟩

set_option maxHeartbeats 800000 in
theorem szTableS_any (A : Option Addr) (n c : Nat) (k0 : Int) (ts : List TabD) (w : World) (hx : TabsL w A n ts) (hs : ∀ j, j < n → (tX ts j).vars.length ≤ 9223372036854775807 ∧ (tX ts j).wh.length ≤ 9223372036854775807) (hn : n ≤ 9223372036854775807) (h0 : 0 ≤ k0) (h1 : k0 ≤ 1099511627776) :
    Calls Tryz.prog 50 #[.slice A n c, .int .i64 k0] w fun e w' => (∃ r, e = .returned (.int .i64 r) ∧ -1 ≤ r ∧ r ≤ k0 ∧ (0 ≤ r → n + r ≤ k0 ∧ ∀ j, j < n → ((tX ts j).vars.length : Int) ≤ k0 ∧ ((tX ts j).wh.length : Int) ≤ k0)) ∧ Below w.heap.size w w' := by
  go_enter Tryz.func50, Tryz.ntmps50
  by_cases hlt : k0 - n < 0
  · go_wp2
    go_ret
    exact ⟨⟨-1, rfl, by omega, by omega, fun h => absurd h (by omega)⟩, Below.refl _ _⟩
  go_wp2
  go_loopw [1, 5] (fun a i wr => ∃ (j : Nat) (r : Int), j ≤ n ∧ i = .int .i64 j ∧ a = .int .i64 r ∧ 0 ≤ r ∧ r ≤ k0 - n ∧ Hid (∀ t, t < j → ((tX ts t).vars.length : Int) ≤ k0 ∧ ((tX ts t).wh.length : Int) ≤ k0) ∧ Below w.heap.size w wr) (fun _ i _ => n - (intOf i).toNat)
  case atStart => exact ⟨0, k0 - n, Nat.zero_le _, rfl, by go_num, by omega, by omega, Lib.hid fun t ht => absurd ht (by omega), Below.refl _ _⟩
  case round =>
    obtain ⟨j, r, hj, rfl, rfl, hr0, hr1, hall, hbw⟩ := hrel
    by_cases hjn : j < n
    · obtain ⟨ad, rfl, hc0, hc3, ⟨V, m, d, hc1, hv⟩, U, k, e, hc2, hu⟩ := (hx.below hbw).at_ hjn
      have hsm : m ≤ 9223372036854775807 := by have := (hs j hjn).1; rw [hv.1] at this; exact this
      have hsk : k ≤ 9223372036854775807 := by have := (hs j hjn).2; rw [hu.1] at this; exact this
      have Q := Lib.hid (fun (h1 : (m : Int) ≤ k0) (h2 : (k : Int) ≤ k0) => (show ∀ t, t < j + 1 → ((tX ts t).vars.length : Int) ≤ k0 ∧ ((tX ts t).wh.length : Int) ≤ k0 from fun t ht => by
        rcases Nat.lt_or_ge t j with h | h
        · exact hall.out t h
        · obtain rfl : t = j := by omega
          rw [hv.1, hu.1]
          exact ⟨h1, h2⟩))
      clear hx hs hall hv hu
      obtain ⟨x, hxe⟩ : ∃ x, (tX ts j).lv = x := ⟨_, rfl⟩
      obtain ⟨y, hye⟩ : ∃ y, (tX ts j).sum = y := ⟨_, rfl⟩
      rw [hxe] at hc0
      rw [hye] at hc3
      clear hxe hye
      go_wp2_with fail
      refine (szTable_any x y V U m d k e r _ hsm hsk hr0 (by omega)).mono ?_
      rintro e2 w2 ⟨⟨q, rfl, hq0, hq1, hq2⟩, hb2⟩
      have hb3 := Lib.hid (hbw.trans (hb2.mono hbw.size))
      clear hb2 hbw
      by_cases hneg : q < 0
      · clear hq2
        go_wp2
        go_ret
        exact ⟨⟨-1, rfl, by omega, by omega, fun h => absurd h (by omega)⟩, hb3.out⟩
      · have hq3 := hq2 (by omega)
        have HQ := Lib.hid (Q.out (by omega) (by omega))
        clear hq2 hq3
        go_wp2
        go_roundw
        case rel => exact ⟨j + 1, q, by omega, by go_num, rfl, by omega, by omega, HQ, hb3.out⟩
        case measure => simp [intOf]; omega
    · obtain rfl : j = n := by omega
      go_wp2
      go_ret
      exact ⟨⟨r, rfl, by omega, by omega, fun _ => ⟨by omega, hall.out⟩⟩, hbw⟩

set_option maxHeartbeats 800000 in
theorem eqTable_any (x y : Int) (V U V' U' : Option Addr) (m d k e d' e' : Nat) (xs ys : List Int) (w : World) (hv : Ints w V m xs) (hv' : Ints w V' m xs) (hu : Ints w U k ys) (hu' : Ints w U' k ys) (hm : m ≤ 1099511627776) (hk : k ≤ 1099511627776) :
    Calls Tryz.prog 22 #[.agg #[.int .i64 x, .slice V m d, .slice U k e, .int .i64 y], .agg #[.int .i64 x, .slice V' m d', .slice U' k e', .int .i64 y]] w fun e w' => e = .returned (.bool true) ∧ Below w.heap.size w w' := by
  obtain ⟨b0, x2, x3⟩ := box_two w #[.int .i64 x, .slice V m d, .slice U k e, .int .i64 y] #[.int .i64 x, .slice V' m d', .slice U' k e', .int .i64 y] 56 56
  have HV := Lib.hid (hv.below b0)
  have HV' := Lib.hid (hv'.below b0)
  have HU := Lib.hid (hu.below b0)
  have HU' := Lib.hid (hu'.below b0)
  have HB := Lib.hid b0
  have l2 := lt_of_block x2
  have l3 := lt_of_block x3
  have c20 := box_cell x2 0 _ rfl
  have c21 := box_cell x2 1 _ rfl
  have c22 := box_cell x2 2 _ rfl
  have c23 := box_cell x2 3 _ rfl
  have c30 := box_cell x3 0 _ rfl
  have c31 := box_cell x3 1 _ rfl
  have c32 := box_cell x3 2 _ rfl
  have c33 := box_cell x3 3 _ rfl
  clear hv hv' hu hu' b0 x2 x3
  go_enter Tryz.func22, Tryz.ntmps22
  go_wp2_with fail
  refine (eqIntS_true _ _ m _ _ xs _ HV.out HV'.out hm).mono ?_
  rintro e w2 ⟨rfl, q, rfl⟩
  go_wp2_with fail
  refine (eqIntS_true _ _ k _ _ ys _ (by exact HU.out) (by exact HU'.out) hk).mono ?_
  rintro e w3 ⟨rfl, q2, rfl⟩
  go_wp2
  go_ret
  exact ⟨rfl, by first | exact below_drewN (below_drewN HB.out q) q2 | exact below_drewN HB.out _⟩

set_option maxHeartbeats 800000 in
theorem eqTableS_any (A A' : Option Addr) (n c c' : Nat) (ts : List TabD) (w : World) (hx : TabsL w A n ts) (hy : TabsL w A' n ts) (hn : n ≤ 1099511627776) (hs : ∀ j, j < n → (tX ts j).vars.length ≤ 1099511627776 ∧ (tX ts j).wh.length ≤ 1099511627776) :
    Calls Tryz.prog 68 #[.slice A n c, .slice A' n c'] w fun e w' => e = .returned (.bool true) ∧ Below w.heap.size w w' := by
  go_enter Tryz.func68, Tryz.ntmps68
  go_wp2
  go_loopw [5] (fun i wr => ∃ (k : Nat), k ≤ n ∧ i = .int .i64 k ∧ Below w.heap.size w wr) (fun i _ => n - (intOf i).toNat)
  case atStart => exact ⟨0, Nat.zero_le _, rfl, Below.refl _ _⟩
  case round =>
    obtain ⟨j, hj, rfl, hbw⟩ := hrel
    by_cases hlt : j < n
    · obtain ⟨ad, rfl, hc0, hc3, ⟨V, m, d, hc1, hv⟩, U, k, e, hc2, hu⟩ := (hx.below hbw).at_ hlt
      obtain ⟨ad', rfl, hd0, hd3, ⟨V', m', d', hd1, hv'⟩, U', k', e', hd2, hu'⟩ := (hy.below hbw).at_ hlt
      have hm : m ≤ 1099511627776 := by have := (hs j hlt).1; rw [hv.1] at this; exact this
      have hk : k ≤ 1099511627776 := by have := (hs j hlt).2; rw [hu.1] at this; exact this
      obtain rfl : m' = m := hv'.1.symm.trans hv.1
      obtain rfl : k' = k := hu'.1.symm.trans hu.1
      clear hx hy hs
      obtain ⟨t, hte⟩ : ∃ t, tX ts j = t := ⟨_, rfl⟩
      rw [hte] at hc0 hc3 hd0 hd3 hv hv' hu hu'
      clear hte
      have HV := Lib.hid hv
      have HV' := Lib.hid hv'
      have HU := Lib.hid hu
      have HU' := Lib.hid hu'
      clear hv hv' hu hu'
      have hsz := hbw.size
      have l0 := block_lt_of_cell hc0
      have l1 := block_lt_of_cell hc1
      have l2 := block_lt_of_cell hc2
      have l3 := block_lt_of_cell hc3
      have m0 := block_lt_of_cell hd0
      have m1 := block_lt_of_cell hd1
      have m2 := block_lt_of_cell hd2
      have m3 := block_lt_of_cell hd3
      have BL := (Below.refl wr.heap.size wr).drew
      go_wp2
      go_region_held3 (fun w2 => (w2.cell? (ad.add (j * 4)) = some (.int .i64 t.lv) ∧ w2.cell? ⟨(ad.add (j * 4)).block, (ad.add (j * 4)).off + 1, none⟩ = some (.slice V m' d) ∧ w2.cell? ⟨(ad.add (j * 4)).block, (ad.add (j * 4)).off + 2, none⟩ = some (.slice U k' e) ∧ w2.cell? ⟨(ad.add (j * 4)).block, (ad.add (j * 4)).off + 3, none⟩ = some (.int .i64 t.sum)) ∧ w2.cell? (ad'.add (j * 4)) = some (.int .i64 t.lv) ∧ w2.cell? ⟨(ad'.add (j * 4)).block, (ad'.add (j * 4)).off + 1, none⟩ = some (.slice V' m' d') ∧ w2.cell? ⟨(ad'.add (j * 4)).block, (ad'.add (j * 4)).off + 2, none⟩ = some (.slice U' k' e') ∧ w2.cell? ⟨(ad'.add (j * 4)).block, (ad'.add (j * 4)).off + 3, none⟩ = some (.int .i64 t.sum)) (first | exact ⟨⟨z0, z1, z2, z3⟩, z4, z5, z6, z7⟩ | exact ⟨⟨hc0, hc1, hc2, hc3⟩, hd0, hd1, hd2, hd3⟩) ((go_at_call 22; refine (eqTable_any t.lv t.sum V U V' U' m' d k' e d' e' t.vars t.wh _ (HV.out.below BL) (HV'.out.below BL) (HU.out.below BL) (HU'.out.below BL) hm hk).mono ?_; rintro e2 w2 ⟨rfl, hb2⟩; have z0 := (hb2.cell (by exact l0)).trans hc0; have z1 := (hb2.cell (by exact l1)).trans hc1; have z2 := (hb2.cell (by exact l2)).trans hc2; have z3 := (hb2.cell (by exact l3)).trans hc3; have z4 := (hb2.cell (by exact m0)).trans hd0; have z5 := (hb2.cell (by exact m1)).trans hd1; have z6 := (hb2.cell (by exact m2)).trans hd2; have z7 := (hb2.cell (by exact m3)).trans hd3; have hbw2 := Lib.hid (hbw.trans ((BL.trans (hb2.mono BL.size)).mono hsz)); clear hb2))
      clear z0 z1 z2 z3 z4 z5 z6 z7
      go_wp2
      go_roundw
      case rel => exact ⟨j + 1, by omega, by go_num, hbw2.out⟩
      case measure => simp [intOf]; omega
    · go_wp2
      go_ret
      exact ⟨rfl, hbw⟩
end Go.Proofs.YtfanpbfmnckmnaaGreat
