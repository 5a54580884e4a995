/- Slices of records: what they read as. -/
import Derived.Test.YtgeilnkglbcmeaaRecT
import Derived.Test.YtgeilnkglbcmeaaSub
namespace Go.Proofs.Ytgeilnkglbcmeaa
open Go.RowKit

structure RecD where
  area : Int
  house : Int
  vals : List Int
def rec0 : RecD := ⟨0, 0, []⟩
def rX (rs : List RecD) (j : Nat) : RecD := rs[j]?.getD rec0
def rA (rs : List RecD) (j : Nat) : Int := (rX rs j).area
def rH (rs : List RecD) (j : Nat) : Int := (rX rs j).house
def rV (rs : List RecD) (j : Nat) : List Int := (rX rs j).vals

/-- A slice of records that reads as a list. -/
def RecsR (w : World) (A : Option Addr) (n : Nat) (rs : List RecD) : Prop :=
  rs.length = n ∧ (0 < n → ∃ ad, A = some ad ∧ ∀ j, j < n → w.cell? (ad.add (j * 3)) = some (.int .i64 (rA rs j)) ∧ w.cell? ⟨(ad.add (j * 3)).block, (ad.add (j * 3)).off + 1, none⟩ = some (.int .i64 (rH rs j)) ∧
    ∃ V m c, w.cell? ⟨(ad.add (j * 3)).block, (ad.add (j * 3)).off + 2, none⟩ = some (.slice V m c) ∧ Ints w V m (rV rs j))
section
variable {w w' : World} {A : Option Addr} {n : Nat} {rs : List RecD}
theorem RecsR.at_ {k : Nat} (h : RecsR w A n rs) (hk : k < n) : ∃ ad, A = some ad ∧ w.cell? (ad.add (k * 3)) = some (.int .i64 (rA rs k)) ∧ w.cell? ⟨(ad.add (k * 3)).block, (ad.add (k * 3)).off + 1, none⟩ = some (.int .i64 (rH rs k)) ∧
    ∃ V m c, w.cell? ⟨(ad.add (k * 3)).block, (ad.add (k * 3)).off + 2, none⟩ = some (.slice V m c) ∧ Ints w V m (rV rs k) := by
  obtain ⟨ad, e, hc⟩ := h.2 (by omega)
  exact ⟨ad, e, hc k hk⟩
theorem RecsR.nil_ : RecsR w A 0 [] := ⟨rfl, fun h => absurd h (by omega)⟩
theorem RecsR.below (h : RecsR w A n rs) (hb : Below w.heap.size w w') : RecsR w' A n rs :=
  ⟨h.1, fun hn => by
    obtain ⟨ad, e, hc⟩ := h.2 hn
    refine ⟨ad, e, fun j hj => ?_⟩
    obtain ⟨c0, c1, V, m, c, c2, hi⟩ := hc j hj
    exact ⟨(hb.cell (block_lt_of_cell c0)).trans c0, (hb.cell (block_lt_of_cell c1)).trans c1, V, m, c, (hb.cell (block_lt_of_cell c2)).trans c2, hi.below hb⟩⟩
theorem RecsR.drewN (h : RecsR w A n rs) (q : Nat) : RecsR (w.drewN q) A n rs := h
theorem RecsR.drew (h : RecsR w A n rs) : RecsR w.drew A n rs := h
end

set_option maxHeartbeats 400000 in
theorem szRecordS_any (A : Option Addr) (n c : Nat) (k : Int) (rs : List RecD) (w : World) (hx : RecsR w A n rs) (hs : ∀ j, j < n → (rV rs j).length ≤ 9223372036854775807) (hn : n ≤ 9223372036854775807) (h0 : 0 ≤ k) (h1 : k ≤ 1099511627776) :
    Calls Try.prog 8 #[.slice A n c, .int .i64 k] w fun e w' => (∃ r, e = .returned (.int .i64 r) ∧ -1 ≤ r ∧ r ≤ k ∧ (0 ≤ r → n + r ≤ k ∧ ∀ j, j < n → ((rV rs j).length : Int) ≤ k)) ∧ Below w.heap.size w w' := by
  go_enter Try.func8, Try.ntmps8
  by_cases hlt : k - n < 0
  · go_wp2
    go_ret
    exact ⟨⟨-1, rfl, by omega, by omega, fun h => absurd h (by omega)⟩, Below.refl _ _⟩
  go_wp2
  go_loopw [1, 5] (fun a i wr => ∃ (j : Nat) (r : Int), j ≤ n ∧ i = .int .i64 j ∧ a = .int .i64 r ∧ 0 ≤ r ∧ r ≤ k - n ∧ Hid (∀ t, t < j → ((rV rs t).length : Int) ≤ k) ∧ Below w.heap.size w wr) (fun _ i _ => n - (intOf i).toNat)
  case atStart => exact ⟨0, k - n, Nat.zero_le _, rfl, by go_num, by omega, by omega, Lib.hid fun t ht => absurd ht (by omega), Below.refl _ _⟩
  case round =>
    obtain ⟨j, r, hj, rfl, rfl, hr0, hr1, hall, hbw⟩ := hrel
    by_cases hjn : j < n
    · obtain ⟨ad, rfl, hc, hc', V, m, cc, hc'', hv⟩ := (hx.below hbw).at_ hjn
      have hsj : m ≤ 9223372036854775807 := by have := hs j hjn; rw [hv.1] at this; exact this
      have Q := Lib.hid (fun (x : Int) (hx : (x : Int) ≤ k) (e : (m : Int) ≤ x) => (show ∀ t, t < j + 1 → ((rV rs t).length : Int) ≤ k from fun t ht => by
        rcases Nat.lt_or_ge t j with h | h
        · exact hall.out t h
        · obtain rfl : t = j := by omega
          rw [hv.1]
          omega))
      clear hx hs hall hv
      obtain ⟨x, hxe⟩ : ∃ x, rA rs j = x := ⟨_, rfl⟩
      obtain ⟨y, hye⟩ : ∃ y, rH rs j = y := ⟨_, rfl⟩
      rw [hxe] at hc
      rw [hye] at hc'
      have F := szi_in m r hr0
      by_cases hneg : szi m r < 0
      · go_wp2_with (go_at_call 51; refine (szRecord_any x y _ m _ r _ hsj hr0 (by omega)).mono ?_; rintro e w2 ⟨rfl, hb2⟩; have hb3 := Lib.hid (hbw.trans (hb2.mono (by exact hbw.size))))
        go_ret
        exact ⟨⟨-1, rfl, by omega, by omega, fun h => absurd h (by omega)⟩, hb3.out⟩
      · go_wp2_with (go_at_call 51; refine (szRecord_any x y _ m _ r _ hsj hr0 (by omega)).mono ?_; rintro e w2 ⟨rfl, hb2⟩; have hb3 := Lib.hid (hbw.trans (hb2.mono (by exact hbw.size))))
        go_roundw
        case rel => exact ⟨j + 1, szi m r, by omega, by go_num, rfl, by omega, by omega, Lib.hid (Q.out r (by omega) (by have := F.2 (by omega); omega)), hb3.out⟩
        case measure => simp [intOf]; omega
    · obtain rfl : j = n := by omega
      go_wp2
      go_ret
      exact ⟨⟨r, rfl, by omega, by omega, fun _ => ⟨by omega, hall.out⟩⟩, hbw⟩

set_option maxHeartbeats 800000 in
theorem eqRecordS_any (A A' : Option Addr) (n c c' : Nat) (rs : List RecD) (w : World) (hx : RecsR w A n rs) (hy : RecsR w A' n rs) (hn : n ≤ 1099511627776) (hs : ∀ j, j < n → (rV rs j).length ≤ 1099511627776) :
    Calls Try.prog 18 #[.slice A n c, .slice A' n c'] w fun e w' => e = .returned (.bool true) ∧ Below w.heap.size w w' := by
  go_enter Try.func18, Try.ntmps18
  go_wp2
  go_loopw [5] (fun i wr => ∃ (k : Nat), k ≤ n ∧ i = .int .i64 k ∧ Below w.heap.size w wr) (fun i _ => n - (intOf i).toNat)
  case atStart => exact ⟨0, Nat.zero_le _, rfl, Below.refl _ _⟩
  case round =>
    obtain ⟨k, hk, rfl, hbw⟩ := hrel
    by_cases hlt : k < n
    · obtain ⟨ad, rfl, hc0, hc1, V, m, cc, hc2, hv⟩ := (hx.below hbw).at_ hlt
      obtain ⟨ad', rfl, hd0, hd1, V', m', cc', hd2, hv'⟩ := (hy.below hbw).at_ hlt
      have hm : m ≤ 1099511627776 := by have := hs k hlt; rw [hv.1] at this; exact this
      obtain rfl : m' = m := hv'.1.symm.trans hv.1
      clear hx hy hs
      obtain ⟨x, hxe⟩ : ∃ x, rA rs k = x := ⟨_, rfl⟩
      obtain ⟨y, hye⟩ : ∃ y, rH rs k = y := ⟨_, rfl⟩
      obtain ⟨xs, hse⟩ : ∃ xs, rV rs k = xs := ⟨_, rfl⟩
      rw [hxe] at hc0 hd0
      rw [hye] at hc1 hd1
      rw [hse] at hv hv'
      clear hxe hye hse
      have HV := Lib.hid hv
      have HV' := Lib.hid hv'
      clear hv hv'
      have hsz := hbw.size
      have l0 := block_lt_of_cell hc0
      have l1 := block_lt_of_cell hc1
      have l2 := block_lt_of_cell hc2
      have m0 := block_lt_of_cell hd0
      have m1 := block_lt_of_cell hd1
      have m2 := block_lt_of_cell hd2
      go_wp2
      go_region_held3 (fun w2 => (w2.cell? (ad.add (k * 3)) = some (.int .i64 x) ∧ w2.cell? ⟨(ad.add (k * 3)).block, (ad.add (k * 3)).off + 1, none⟩ = some (.int .i64 y) ∧ w2.cell? ⟨(ad.add (k * 3)).block, (ad.add (k * 3)).off + 2, none⟩ = some (.slice V m' cc)) ∧ w2.cell? (ad'.add (k * 3)) = some (.int .i64 x) ∧ w2.cell? ⟨(ad'.add (k * 3)).block, (ad'.add (k * 3)).off + 1, none⟩ = some (.int .i64 y) ∧ w2.cell? ⟨(ad'.add (k * 3)).block, (ad'.add (k * 3)).off + 2, none⟩ = some (.slice V' m' cc')) (go_keep) ((go_at_call 67; refine (eqRecord_any x y _ _ m' _ _ xs _ (by exact HV.out) (by exact HV'.out) hm).mono ?_; rintro e w2 ⟨rfl, hb2⟩; have g1 := (hb2.cell l0).trans hc0; have g2 : w2.cell? ⟨(ad.add (k * 3)).block, (ad.add (k * 3)).off + 1, none⟩ = some (.int .i64 y) := (hb2.cell (by exact l1)).trans hc1; have g3 : w2.cell? ⟨(ad.add (k * 3)).block, (ad.add (k * 3)).off + 2, none⟩ = some (.slice V m' cc) := (hb2.cell (by exact l2)).trans hc2; have g4 := (hb2.cell m0).trans hd0; have g5 : w2.cell? ⟨(ad'.add (k * 3)).block, (ad'.add (k * 3)).off + 1, none⟩ = some (.int .i64 y) := (hb2.cell (by exact m1)).trans hd1; have g6 : w2.cell? ⟨(ad'.add (k * 3)).block, (ad'.add (k * 3)).off + 2, none⟩ = some (.slice V' m' cc') := (hb2.cell (by exact m2)).trans hd2; have hbw2 := hbw.drew.trans (hb2.mono hsz)))
      go_wp2
      go_roundw
      case rel => exact ⟨k + 1, by omega, by go_num, hbw2⟩
      case measure => simp [intOf]; omega
    · go_wp2
      go_ret
      exact ⟨rfl, hbw⟩
end Go.Proofs.Ytgeilnkglbcmeaa
