/- Several small texts in one: Chg, Sub, Recs, RecTo, Mark. -/
import Derived.Test.YtfanpbfmnckmnaaGreatZa
import Derived.Test.YtfanpbfmnckmnaaGreatYw
import Derived.Test.YtfanpbfmnckmnaaGreatZb
import Derived.Laws.BytesArg
namespace Go.Proofs.YtfanpbfmnckmnaaGreat

section
open Go.RowKit

theorem Chg.set {lo hi g i : Nat} {a b : World} {v : Value} (h : Chg lo hi a b) (h1 : lo ≤ g) (h2 : g < hi) : Chg lo hi a (b.setCell ⟨g, i, none⟩ v) :=
  h.trans ⟨rfl, rfl, rfl, by simp, fun k _ ho => Below.heap_setCell b ⟨g, i, none⟩ v k (fun e => by simp at e; omega)⟩
theorem Chg.drew {lo hi : Nat} {a b : World} (h : Chg lo hi a b) : Chg lo hi a b.drew := ⟨h.os, h.tape, h.output, h.size, h.block⟩
theorem Chg.alloc {lo hi : Nat} {a b : World} (h : Chg lo hi a b) (o : Obj) : Chg lo hi a (b.alloc o) := h.trans (Chg.of_below (below_new b o))
theorem Chg.then_ {lo hi : Nat} {a b c : World} (h : Chg lo hi a b) (k : Below b.heap.size b c) : Chg lo hi a c := h.trans (Chg.of_below k)
end

section
open Go.RowKit

/-- The cells pos, pos + st, .. of ys hold rows of ints, each of the call's own, from the k-th on, no two in one block. -/
structure Sub (w : World) (lo hi : Nat) (ys : List Value) (st pos : Nat) (L : Nat → List Int) (k n : Nat) : Prop where
  row : ∀ j, k ≤ j → j < n → ∃ V c, ys[j * st + pos]? = some (.slice V (L j).length c) ∧ OwnI w lo hi V (L j).length c (L j)
  apart : ∀ i j g, k ≤ i → i < j → j < n → (ys[i * st + pos]?).bind Value.ownBlock = some g → (ys[j * st + pos]?).bind Value.ownBlock ≠ some g

def upd (L : Nat → List Int) (i : Nat) (l : List Int) : Nat → List Int := fun j => if j = i then l else L j
theorem upd_at (L : Nat → List Int) (i : Nat) (l : List Int) : upd L i l i = l := by simp [upd]
theorem upd_ne (L : Nat → List Int) {i j : Nat} (l : List Int) (h : j ≠ i) : upd L i l j = L j := by simp [upd, h]

section
variable {w w' : World} {lo hi : Nat} {ys : List Value} {st pos : Nat} {L : Nat → List Int} {k n : Nat}
theorem Sub.keep (h : Sub w lo hi ys st pos L k n) (hk : ∀ g, lo ≤ g → g < hi → g < w.heap.size → w'.heap[g]? = w.heap[g]?) : Sub w' lo hi ys st pos L k n :=
  ⟨fun j h1 h2 => by
    obtain ⟨V, c, e, ho⟩ := h.row j h1 h2
    refine ⟨V, c, e, ⟨ho.own.keep fun g hA hl => ?_, ho.top, ho.small⟩⟩
    have := ho.row g (by rw [hA]; rfl)
    exact hk g this.1 this.2 hl, h.apart⟩
theorem Sub.below (h : Sub w lo hi ys st pos L k n) (hb : Below w.heap.size w w') : Sub w' lo hi ys st pos L k n := h.keep fun g _ _ hg => hb.block g hg
theorem Sub.chg {lo' hi' : Nat} (h : Sub w lo hi ys st pos L k n) (hc : Chg lo' hi' w w') (hd : hi ≤ lo' ∨ hi' ≤ lo) : Sub w' lo hi ys st pos L k n := h.keep fun g h1 h2 hg => hc.block g hg (by omega)
theorem Sub.fit {lo' : Nat} (h : Sub w lo hi ys st pos L k n) (hl : lo' ≤ lo) : Sub w lo' w.heap.size ys st pos L k n :=
  ⟨fun j h1 h2 => by
    obtain ⟨V, c, e, ho⟩ := h.row j h1 h2
    exact ⟨V, c, e, ho.fit hl⟩, h.apart⟩
theorem Sub.less {k' : Nat} (h : Sub w lo hi ys st pos L k n) (hk : k ≤ k') : Sub w lo hi ys st pos L k' n :=
  ⟨fun j h1 h2 => h.row j (by omega) h2, fun i j g h1 h2 h3 => h.apart i j g (by omega) h2 h3⟩
theorem Sub.fn {L' : Nat → List Int} (h : Sub w lo hi ys st pos L k n) (he : ∀ j, k ≤ j → j < n → L' j = L j) : Sub w lo hi ys st pos L' k n :=
  ⟨fun j h1 h2 => by rw [he j h1 h2]; exact h.row j h1 h2, h.apart⟩
/-- The outer row's cells turn elsewhere. -/
theorem Sub.cells {zs : List Value} (h : Sub w lo hi ys st pos L k n) (he : ∀ j, k ≤ j → j < n → zs[j * st + pos]? = ys[j * st + pos]?) : Sub w lo hi zs st pos L k n :=
  ⟨fun j h1 h2 => by rw [he j h1 h2]; exact h.row j h1 h2, fun i j g h1 h2 h3 => by rw [he i h1 (by omega), he j (by omega) h3]; exact h.apart i j g h1 h2 h3⟩
/-- A store into the outer row's block, of another type. -/
theorem Sub.far {g i : Nat} {v : Value} {T : TypeId} {cs : Array Value} (h : Sub w lo hi ys st pos L k n) (hg : w.heap[g]? = some (.cells cs T (0, 0))) (hT : T ≠ 3) : Sub (w.setCell ⟨g, i, none⟩ v) lo hi ys st pos L k n :=
  ⟨fun j h1 h2 => by
    obtain ⟨V, c, e, ho⟩ := h.row j h1 h2
    refine ⟨V, c, e, ⟨ho.own.keep fun b hA hl => ?_, ho.top, ho.small⟩⟩
    refine Below.heap_setCell w ⟨g, i, none⟩ v b (fun e' => ?_)
    subst e'
    rcases ho.own.2 with ⟨h0, _⟩ | ⟨b', cap, cur, hv, _, hh, _⟩
    · rw [hA] at h0; cases h0
    · rw [hA] at hv
      injection hv with hv
      injection hv with hv
      injection hv with hv
      subst hv
      rw [hg] at hh
      injection hh with hh
      injection hh with _ hh
      exact hT hh, h.apart⟩
theorem ownBlock_rowOf (A : Option Addr) (n c : Nat) : (Value.slice A n c).ownBlock = rowOf A := by cases A <;> rfl
/-- The i-th row has become another: of the same block, or of a new one. -/
theorem Sub.set {i c : Nat} {V V2 : Option Addr} {m c2 : Nat} {l : List Int} (h : Sub w lo hi ys st pos L 0 n) (hpos : pos < st) (hi : i < n) (hl : ys.length = n * st) (hV : ys[i * st + pos]? = some (.slice V m c))
    (hg : w.grownBy w' (rowOf V)) (ho : Own w' lo V2 l.length c2 l) (hs : l.length ≤ 1099511627776) (hb : rowOf V2 = none ∨ rowOf V2 = rowOf V ∨ ∃ g, rowOf V2 = some g ∧ w.heap.size ≤ g) :
    Sub w' lo w'.heap.size (ys.set (i * st + pos) (.slice V2 l.length c2)) st pos (upd L i l) 0 n := by
  have hin : i * st + pos < ys.length := by
    rw [hl]
    have : (i + 1) * st ≤ n * st := Nat.mul_le_mul_right _ (by omega)
    rw [Nat.add_mul] at this
    omega
  have hother : ∀ j, j ≠ i → j * st + pos ≠ i * st + pos := fun j hj e => hj (Nat.eq_of_mul_eq_mul_right (by omega : 0 < st) (by omega))
  have hfar : ∀ j, j < n → j ≠ i → ∀ g, (ys[j * st + pos]?).bind Value.ownBlock = some g → rowOf V ≠ some g := fun j hj hne g hgj hVg => by
    have hVi : (ys[i * st + pos]?).bind Value.ownBlock = some g := by rw [hV]; simpa [ownBlock_rowOf] using hVg
    rcases Nat.lt_or_ge j i with h1 | h1
    · exact h.apart j i g (by omega) h1 hi hgj hVi
    · exact h.apart i j g (by omega) (by omega) hj hVi hgj
  have hold : ∀ j, j < n → ∀ g, (ys[j * st + pos]?).bind Value.ownBlock = some g → g < w.heap.size := fun j hj g hgj => by
    obtain ⟨V3, c3, e3, ho3⟩ := h.row j (by omega) hj
    rw [e3] at hgj
    exact (ho3.own.row_ge g (by simpa [ownBlock_rowOf] using hgj)).2
  have hset : ∀ j, j ≠ i → (ys.set (i * st + pos) (.slice V2 l.length c2))[j * st + pos]? = ys[j * st + pos]? := fun j hj => by
    rw [List.getElem?_set_ne (fun e => hother j hj e.symm)]
  have hself : (ys.set (i * st + pos) (.slice V2 l.length c2))[i * st + pos]? = some (.slice V2 l.length c2) := List.getElem?_set_self hin
  refine ⟨fun j h1 h2 => ?_, fun a b g h1 h2 h3 ha hbb => ?_⟩
  · by_cases hj : j = i
    · subst hj
      rw [hself, upd_at]
      exact ⟨V2, c2, rfl, OwnI.of_own ho hs⟩
    · rw [hset j hj, upd_ne _ _ hj]
      obtain ⟨V3, c3, e3, ho3⟩ := h.row j h1 h2
      refine ⟨V3, c3, e3, OwnI.of_own (ho3.own.far hg (fun g hA e => ?_)) ho3.small⟩
      exact hfar j h2 hj g (by rw [e3, hA]; rfl) e
  · by_cases haI : a = i
    · subst haI
      rw [hself] at ha
      rw [hset b (by omega)] at hbb
      have ha' : rowOf V2 = some g := by simpa [ownBlock_rowOf] using ha
      rcases hb with e | e | ⟨g', e, hge⟩
      · rw [e] at ha'; cases ha'
      · exact hfar b h3 (by omega) g hbb (by rw [← e]; exact ha')
      · have := hold b h3 g hbb
        rw [e] at ha'; injection ha' with ha'; omega
    · rw [hset a haI] at ha
      by_cases hbI : b = i
      · subst hbI
        rw [hself] at hbb
        have hb' : rowOf V2 = some g := by simpa [ownBlock_rowOf] using hbb
        rcases hb with e | e | ⟨g', e, hge⟩
        · rw [e] at hb'; cases hb'
        · exact hfar a (by omega) haI g ha (by rw [← e]; exact hb')
        · have := hold a (by omega) g ha
          rw [e] at hb'; injection hb' with hb'; omega
      · rw [hset b hbI] at hbb
        exact h.apart a b g h1 h2 h3 ha hbb
/-- The k-th row is marked: those behind it stay. -/
theorem Sub.mark {V : Option Addr} {m c : Nat} (h : Sub w lo hi ys st pos L k n) (_hk : k < n) (hV : ys[k * st + pos]? = some (.slice V m c)) (hg : w.grownBy w' (rowOf V)) : Sub w' lo hi ys st pos L (k + 1) n :=
  ⟨fun j h1 h2 => by
    obtain ⟨V3, c3, e3, ho3⟩ := h.row j (by omega) h2
    refine ⟨V3, c3, e3, ⟨ho3.own.far hg (fun g hA e => ?_), ho3.top, ho3.small⟩⟩
    exact h.apart k j g (Nat.le_refl _) (by omega) h2 (by rw [hV]; simpa [ownBlock_rowOf] using e) (by rw [e3, hA]; rfl),
   fun i j g h1 h2 h3 => h.apart i j g (by omega) h2 h3⟩
theorem Sub.nils (hn : ∀ j, j < n → ys[j * st + pos]? = some (.slice none 0 0)) (hL : ∀ j, j < n → L j = []) : Sub w lo hi ys st pos L 0 n :=
  ⟨fun j _ h2 => ⟨none, 0, by rw [hL j h2]; exact hn j h2, by rw [hL j h2]; exact ⟨Own.nil_, (fun k hk => by cases hk), by simp⟩⟩,
   fun i j g _ h2 h3 ha => by rw [hn i (by omega)] at ha; cases ha⟩
end
end

section
open Go.RowKit

structure RecD where
  area : Int
  house : Int
  vals : List Int
def rec0 : RecD := ⟨0, 0, []⟩
def rX (rs : List RecD) (j : Nat) : RecD := rs[j]?.getD rec0
def rA (rs : List RecD) (j : Nat) : Int := (rX rs j).area
def rH (rs : List RecD) (j : Nat) : Int := (rX rs j).house
def rV (rs : List RecD) (j : Nat) : List Int := (rX rs j).vals

/-- A slice of records that reads as a list. -/
def RecsR (w : World) (A : Option Addr) (n : Nat) (rs : List RecD) : Prop :=
  rs.length = n ∧ (0 < n → ∃ ad, A = some ad ∧ ∀ j, j < n → w.cell? (ad.add (j * 3)) = some (.int .i64 (rA rs j)) ∧ w.cell? ⟨(ad.add (j * 3)).block, (ad.add (j * 3)).off + 1, none⟩ = some (.int .i64 (rH rs j)) ∧
    ∃ V m c, w.cell? ⟨(ad.add (j * 3)).block, (ad.add (j * 3)).off + 2, none⟩ = some (.slice V m c) ∧ Ints w V m (rV rs j))
section
variable {w w' : World} {A : Option Addr} {n : Nat} {rs : List RecD}
theorem RecsR.at_ {k : Nat} (h : RecsR w A n rs) (hk : k < n) : ∃ ad, A = some ad ∧ w.cell? (ad.add (k * 3)) = some (.int .i64 (rA rs k)) ∧ w.cell? ⟨(ad.add (k * 3)).block, (ad.add (k * 3)).off + 1, none⟩ = some (.int .i64 (rH rs k)) ∧
    ∃ V m c, w.cell? ⟨(ad.add (k * 3)).block, (ad.add (k * 3)).off + 2, none⟩ = some (.slice V m c) ∧ Ints w V m (rV rs k) := by
  obtain ⟨ad, e, hc⟩ := h.2 (by omega)
  exact ⟨ad, e, hc k hk⟩
theorem RecsR.nil_ : RecsR w A 0 [] := ⟨rfl, fun h => absurd h (by omega)⟩
theorem RecsR.below (h : RecsR w A n rs) (hb : Below w.heap.size w w') : RecsR w' A n rs :=
  ⟨h.1, fun hn => by
    obtain ⟨ad, e, hc⟩ := h.2 hn
    refine ⟨ad, e, fun j hj => ?_⟩
    obtain ⟨c0, c1, V, m, c, c2, hi⟩ := hc j hj
    exact ⟨(hb.cell (block_lt_of_cell c0)).trans c0, (hb.cell (block_lt_of_cell c1)).trans c1, V, m, c, (hb.cell (block_lt_of_cell c2)).trans c2, hi.below hb⟩⟩
theorem RecsR.drewN (h : RecsR w A n rs) (q : Nat) : RecsR (w.drewN q) A n rs := h
theorem RecsR.drew (h : RecsR w A n rs) : RecsR w.drew A n rs := h
end

set_option maxHeartbeats 400000 in
theorem szRecordS_any (A : Option Addr) (n c : Nat) (k : Int) (rs : List RecD) (w : World) (hx : RecsR w A n rs) (hs : ∀ j, j < n → (rV rs j).length ≤ 9223372036854775807) (hn : n ≤ 9223372036854775807) (h0 : 0 ≤ k) (h1 : k ≤ 1099511627776) :
    Calls Tryz.prog 49 #[.slice A n c, .int .i64 k] w fun e w' => (∃ r, e = .returned (.int .i64 r) ∧ -1 ≤ r ∧ r ≤ k ∧ (0 ≤ r → n + r ≤ k ∧ ∀ j, j < n → ((rV rs j).length : Int) ≤ k)) ∧ Below w.heap.size w w' := by
  go_enter Tryz.func49, Tryz.ntmps49
  by_cases hlt : k - n < 0
  · go_wp2
    go_ret
    exact ⟨⟨-1, rfl, by omega, by omega, fun h => absurd h (by omega)⟩, Below.refl _ _⟩
  go_wp2
  go_loopw [1, 5] (fun a i wr => ∃ (j : Nat) (r : Int), j ≤ n ∧ i = .int .i64 j ∧ a = .int .i64 r ∧ 0 ≤ r ∧ r ≤ k - n ∧ Hid (∀ t, t < j → ((rV rs t).length : Int) ≤ k) ∧ Below w.heap.size w wr) (fun _ i _ => n - (intOf i).toNat)
  case atStart => exact ⟨0, k - n, Nat.zero_le _, rfl, by go_num, by omega, by omega, Lib.hid fun t ht => absurd ht (by omega), Below.refl _ _⟩
  case round =>
    obtain ⟨j, r, hj, rfl, rfl, hr0, hr1, hall, hbw⟩ := hrel
    by_cases hjn : j < n
    · obtain ⟨ad, rfl, hc, hc', V, m, cc, hc'', hv⟩ := (hx.below hbw).at_ hjn
      have hsj : m ≤ 9223372036854775807 := by have := hs j hjn; rw [hv.1] at this; exact this
      have Q := Lib.hid (fun (x : Int) (hx : (x : Int) ≤ k) (e : (m : Int) ≤ x) => (show ∀ t, t < j + 1 → ((rV rs t).length : Int) ≤ k from fun t ht => by
        rcases Nat.lt_or_ge t j with h | h
        · exact hall.out t h
        · obtain rfl : t = j := by omega
          rw [hv.1]
          omega))
      clear hx hs hall hv
      obtain ⟨x, hxe⟩ : ∃ x, rA rs j = x := ⟨_, rfl⟩
      obtain ⟨y, hye⟩ : ∃ y, rH rs j = y := ⟨_, rfl⟩
      rw [hxe] at hc
      rw [hye] at hc'
      have F := szi_in m r hr0
      by_cases hneg : szi m r < 0
      · go_wp2_with (go_at_call 105; refine (szRecord_any x y _ m _ r _ hsj hr0 (by omega)).mono ?_; rintro e w2 ⟨rfl, hb2⟩; have hb3 := Lib.hid (hbw.trans (hb2.mono (by exact hbw.size))))
        go_ret
        exact ⟨⟨-1, rfl, by omega, by omega, fun h => absurd h (by omega)⟩, hb3.out⟩
      · go_wp2_with (go_at_call 105; refine (szRecord_any x y _ m _ r _ hsj hr0 (by omega)).mono ?_; rintro e w2 ⟨rfl, hb2⟩; have hb3 := Lib.hid (hbw.trans (hb2.mono (by exact hbw.size))))
        go_roundw
        case rel => exact ⟨j + 1, szi m r, by omega, by go_num, rfl, by omega, by omega, Lib.hid (Q.out r (by omega) (by have := F.2 (by omega); omega)), hb3.out⟩
        case measure => simp [intOf]; omega
    · obtain rfl : j = n := by omega
      go_wp2
      go_ret
      exact ⟨⟨r, rfl, by omega, by omega, fun _ => ⟨by omega, hall.out⟩⟩, hbw⟩

set_option maxHeartbeats 800000 in
theorem eqRecordS_any (A A' : Option Addr) (n c c' : Nat) (rs : List RecD) (w : World) (hx : RecsR w A n rs) (hy : RecsR w A' n rs) (hn : n ≤ 1099511627776) (hs : ∀ j, j < n → (rV rs j).length ≤ 1099511627776) :
    Calls Tryz.prog 67 #[.slice A n c, .slice A' n c'] w fun e w' => e = .returned (.bool true) ∧ Below w.heap.size w w' := by
  go_enter Tryz.func67, Tryz.ntmps67
  go_wp2
  go_loopw [5] (fun i wr => ∃ (k : Nat), k ≤ n ∧ i = .int .i64 k ∧ Below w.heap.size w wr) (fun i _ => n - (intOf i).toNat)
  case atStart => exact ⟨0, Nat.zero_le _, rfl, Below.refl _ _⟩
  case round =>
    obtain ⟨k, hk, rfl, hbw⟩ := hrel
    by_cases hlt : k < n
    · obtain ⟨ad, rfl, hc0, hc1, V, m, cc, hc2, hv⟩ := (hx.below hbw).at_ hlt
      obtain ⟨ad', rfl, hd0, hd1, V', m', cc', hd2, hv'⟩ := (hy.below hbw).at_ hlt
      have hm : m ≤ 1099511627776 := by have := hs k hlt; rw [hv.1] at this; exact this
      obtain rfl : m' = m := hv'.1.symm.trans hv.1
      clear hx hy hs
      obtain ⟨x, hxe⟩ : ∃ x, rA rs k = x := ⟨_, rfl⟩
      obtain ⟨y, hye⟩ : ∃ y, rH rs k = y := ⟨_, rfl⟩
      obtain ⟨xs, hse⟩ : ∃ xs, rV rs k = xs := ⟨_, rfl⟩
      rw [hxe] at hc0 hd0
      rw [hye] at hc1 hd1
      rw [hse] at hv hv'
      clear hxe hye hse
      have HV := Lib.hid hv
      have HV' := Lib.hid hv'
      clear hv hv'
      have hsz := hbw.size
      have l0 := block_lt_of_cell hc0
      have l1 := block_lt_of_cell hc1
      have l2 := block_lt_of_cell hc2
      have m0 := block_lt_of_cell hd0
      have m1 := block_lt_of_cell hd1
      have m2 := block_lt_of_cell hd2
      go_wp2
      go_region_held3 (fun w2 => (w2.cell? (ad.add (k * 3)) = some (.int .i64 x) ∧ w2.cell? ⟨(ad.add (k * 3)).block, (ad.add (k * 3)).off + 1, none⟩ = some (.int .i64 y) ∧ w2.cell? ⟨(ad.add (k * 3)).block, (ad.add (k * 3)).off + 2, none⟩ = some (.slice V m' cc)) ∧ w2.cell? (ad'.add (k * 3)) = some (.int .i64 x) ∧ w2.cell? ⟨(ad'.add (k * 3)).block, (ad'.add (k * 3)).off + 1, none⟩ = some (.int .i64 y) ∧ w2.cell? ⟨(ad'.add (k * 3)).block, (ad'.add (k * 3)).off + 2, none⟩ = some (.slice V' m' cc')) (go_keep) ((go_at_call 123; refine (eqRecord_any x y _ _ m' _ _ xs _ (by exact HV.out) (by exact HV'.out) hm).mono ?_; rintro e w2 ⟨rfl, hb2⟩; have g1 := (hb2.cell l0).trans hc0; have g2 : w2.cell? ⟨(ad.add (k * 3)).block, (ad.add (k * 3)).off + 1, none⟩ = some (.int .i64 y) := (hb2.cell (by exact l1)).trans hc1; have g3 : w2.cell? ⟨(ad.add (k * 3)).block, (ad.add (k * 3)).off + 2, none⟩ = some (.slice V m' cc) := (hb2.cell (by exact l2)).trans hc2; have g4 := (hb2.cell m0).trans hd0; have g5 : w2.cell? ⟨(ad'.add (k * 3)).block, (ad'.add (k * 3)).off + 1, none⟩ = some (.int .i64 y) := (hb2.cell (by exact m1)).trans hd1; have g6 : w2.cell? ⟨(ad'.add (k * 3)).block, (ad'.add (k * 3)).off + 2, none⟩ = some (.slice V' m' cc') := (hb2.cell (by exact m2)).trans hd2; have hbw2 := hbw.drew.trans (hb2.mono hsz)))
      go_wp2
      go_roundw
      case rel => exact ⟨k + 1, by omega, by go_num, hbw2⟩
      case measure => simp [intOf]; omega
    · go_wp2
      go_ret
      exact ⟨rfl, hbw⟩
end

section
open Go.RowKit

theorem box_three (w : World) (cs ds es : Array Value) (T U X : TypeId) :
    Below w.heap.size w (((w.alloc (.cells cs T)).alloc (.cells ds U)).alloc (.cells es X)) ∧ (((w.alloc (.cells cs T)).alloc (.cells ds U)).alloc (.cells es X)).heap[w.heap.size]? = some (.cells cs T (0, 0)) ∧
    (((w.alloc (.cells cs T)).alloc (.cells ds U)).alloc (.cells es X)).heap[w.heap.size + 1]? = some (.cells ds U (0, 0)) ∧ (((w.alloc (.cells cs T)).alloc (.cells ds U)).alloc (.cells es X)).heap[w.heap.size + 1 + 1]? = some (.cells es X (0, 0)) ∧
    (((w.alloc (.cells cs T)).alloc (.cells ds U)).alloc (.cells es X)).heap.size = w.heap.size + 1 + 1 + 1 := by
  obtain ⟨h0, h1, h2⟩ := box_two w cs ds T U
  have h3 := heap_alloc_new ((w.alloc (.cells cs T)).alloc (.cells ds U)) (.cells es X)
  exact ⟨h0.alloc h0.size _, (Below.heap_alloc _ _ _ (by simp; omega)).trans h1, (Below.heap_alloc _ _ _ (by simp)).trans h2, by simpa using h3, by simp⟩

set_option maxHeartbeats 800000 in
theorem toRecord_any (x y : Int) (A : Option Addr) (n c : Nat) (xs : List Int) (w : World) (hx : Ints w A n xs) (hn : n ≤ 1099511627776) :
    Calls Tryz.prog 111 #[.agg #[.int .i64 x, .int .i64 y, .slice A n c]] w fun e w' => ∃ V c', e = .returned (.agg #[.int .i64 x, .int .i64 y, .slice V n c']) ∧ OwnI w' w.heap.size w'.heap.size V n c' xs ∧ Below w.heap.size w w' := by
  obtain ⟨b0, x1, x2, x3, S⟩ := box_three w #[.int .i64 x, .int .i64 y, .slice A n c] #[.int .i64 0, .int .i64 0, .slice none 0 0] #[.int .i64 x, .int .i64 y, .slice none 0 0] 131 135 135
  have HS := Lib.hid S
  clear S
  have HX := Lib.hid (hx.below b0)
  clear hx
  go_enter Tryz.func111, Tryz.ntmps111
  go_wp2_with fail
  refine (toIntS_law _ _ _ xs _ HX.out hn).mono ?_
  rintro e w2 ⟨V, c', rfl, o2, hb2⟩
  generalize (((w.alloc (.cells #[.int .i64 x, .int .i64 y, .slice A n c] 131)).alloc (.cells #[.int .i64 0, .int .i64 0, .slice none 0 0] 135)).alloc (.cells #[.int .i64 x, .int .i64 y, .slice none 0 0] 135)) = w1 at *
  have y2 := box_below x2 hb2
  have y3 := box_below x3 hb2
  have hs2 := hb2.size
  have c30 := box_cell y3 0 (.int .i64 x) rfl
  have c31 := box_cell y3 1 (.int .i64 y) rfl
  have c32 := box_cell y3 2 (.slice none 0 0) rfl
  have c20 := box_cell y2 0 (.int .i64 0) rfl
  have c21 := box_cell y2 1 (.int .i64 0) rfl
  have c22 := box_cell y2 2 (.slice none 0 0) rfl
  have f32 := box_free y3 2
  have f20 := box_free y2 0
  have f21 := box_free y2 1
  have f22 := box_free y2 2
  have HO := Lib.hid o2
  have HB := Lib.hid (b0.trans (hb2.mono b0.size))
  clear x1 x2 x3 o2 hb2 y2 y3 b0
  go_wp2
  have g32 : w.heap.size + 1 + 1 < w1.heap.size := by rw [HS.out]; omega
  refine bodyPost_ret (v := .agg #[.int .i64 x, .int .i64 y, .slice V n c']) (by simp [results, Tryz.results111, go_sem, c20, c21, c22]) rfl ⟨V, c', rfl, ?_, (((HB.out.setCell (by simp; omega) _).setCell (by simp) _).setCell (by simp) _).setCell (by simp) _⟩
  have hk := ((((Chg.refl (w.heap.size + 1) (w.heap.size + 1 + 1 + 1) w2).set (g := w.heap.size + 1 + 1) (i := 2) (v := .slice V n c') (by omega) (by omega)).set (g := w.heap.size + 1) (i := 0) (v := .int .i64 x) (by omega) (by omega)).set (g := w.heap.size + 1) (i := 1) (v := .int .i64 y) (by omega) (by omega)).set (g := w.heap.size + 1) (i := 2) (v := .slice V n c') (by omega) (by omega)
  exact (HO.out.chg hk (.inr (by omega))).fit (by omega)

/-- A row of records of the call's own, in blocks from lo on and below hi. -/
structure OwnRc (w : World) (lo hi : Nat) (A : Option Addr) (n c : Nat) (rs : List RecD) : Prop where
  len : rs.length = n
  cells : ∃ ys, w.ownsRow lo 135 3 (.slice A n c) n ys ∧ (∀ j, j < n → ys[j * 3]? = some (.int .i64 (rA rs j)) ∧ ys[j * 3 + 1]? = some (.int .i64 (rH rs j))) ∧ Sub w lo hi ys 3 2 (rV rs) 0 n
  top : ∀ k, rowOf A = some k → k < hi
  small : n ≤ 1099511627776

section
variable {w w' : World} {A : Option Addr} {n c lo hi : Nat} {rs : List RecD}
theorem row_keep {T : TypeId} {sz : Nat} {ys : List Value} (h : w.ownsRow lo T sz (.slice A n c) n ys) (hk : ∀ g, lo ≤ g → rowOf A = some g → g < w.heap.size → w'.heap[g]? = w.heap[g]?) : w'.ownsRow lo T sz (.slice A n c) n ys := by
  refine ⟨h.1, ?_⟩
  rcases h.2 with h0 | ⟨g, cap, cur, hv, hb, hg, hr⟩
  · exact .inl h0
  · refine .inr ⟨g, cap, cur, hv, hb, ?_, hr⟩
    injection hv with hA
    rw [hk g hb (by rw [hA]; rfl) (lt_of_block hg)]
    exact hg
theorem OwnRc.keep (h : OwnRc w lo hi A n c rs) (hk : ∀ g, lo ≤ g → g < hi → g < w.heap.size → w'.heap[g]? = w.heap[g]?) : OwnRc w' lo hi A n c rs := by
  obtain ⟨ys, h1, h2, h3⟩ := h.cells
  exact ⟨h.len, ⟨ys, row_keep h1 fun g hl hA hg => hk g hl (h.top g hA) hg, h2, h3.keep hk⟩, h.top, h.small⟩
theorem OwnRc.below (h : OwnRc w lo hi A n c rs) (hb : Below w.heap.size w w') : OwnRc w' lo hi A n c rs := h.keep fun g _ _ hg => hb.block g hg
theorem OwnRc.chg {lo' hi' : Nat} (h : OwnRc w lo hi A n c rs) (hc : Chg lo' hi' w w') (hd : hi ≤ lo' ∨ hi' ≤ lo) : OwnRc w' lo hi A n c rs := h.keep fun g h1 h2 hg => hc.block g hg (by omega)
theorem OwnRc.recs (h : OwnRc w lo hi A n c rs) : RecsR w A n rs := by
  refine ⟨h.len, fun hn => ?_⟩
  obtain ⟨ys, ho, hf, hs⟩ := h.cells
  rcases ho.2 with ⟨_, h0⟩ | ⟨g, cap, cur, hv, _⟩
  · omega
  · injection hv with hA _ hc
    subst hA hc
    have hl := ho.1
    refine ⟨_, rfl, fun j hj => ?_⟩
    rw [addr_add0]
    obtain ⟨V, m, e2, hV⟩ := hs.row j (by omega) hj
    have := hf j hj
    exact ⟨(World.ownsRow.cellAt ho (j * 3) (by omega)).trans this.1, (World.ownsRow.cellAt ho (j * 3 + 1) (by omega)).trans this.2, V, _, m, (World.ownsRow.cellAt ho (j * 3 + 2) (by omega)).trans e2, hV.ints⟩
theorem OwnRc.drewN (h : OwnRc w lo hi A n c rs) (q : Nat) : OwnRc (w.drewN q) lo hi A n c rs := h.keep fun _ _ _ _ => rfl
end
theorem Tryz.infoRecord : (Tryz.prog.info? 135).map (fun i => (i.zero, i.size, i.bytes)) = some (some (.agg #[.int .i64 0, .int .i64 0, .slice none 0 0]), 3, 40) := by kernel_rfl

/-- The cells ys agree with the records' numbers below k; the rows from k on are nil. -/
def AgreeR (rs : List RecD) (ys : List Value) (n k : Nat) : Prop := ys.length = n * 3 ∧ (∀ t, t < k → ys[t * 3]? = some (.int .i64 (rA rs t)) ∧ ys[t * 3 + 1]? = some (.int .i64 (rH rs t))) ∧ ∀ t, k ≤ t → t < n → ys[t * 3 + 2]? = some (.slice none 0 0)
def upTo (L : Nat → List Int) (k : Nat) : Nat → List Int := fun j => if j < k then L j else []
theorem upTo_step (L : Nat → List Int) (k : Nat) : upd (upTo L k) k (L k) = upTo L (k + 1) := by
  funext j
  unfold upd upTo
  by_cases h : j = k
  · subst h; simp
  · by_cases h2 : j < k
    · simp [h, h2, Nat.lt_succ_of_lt h2]
    · have : ¬ j < k + 1 := by omega
      simp [h, h2, this]
theorem AgreeR.step {rs : List RecD} {ys : List Value} {n k : Nat} (h : AgreeR rs ys n k) (hk : k < n) (v : Value) : AgreeR rs (((ys.set (k * 3) (.int .i64 (rA rs k))).set (k * 3 + 1) (.int .i64 (rH rs k))).set (k * 3 + 2) v) n (k + 1) := by
  obtain ⟨h1, h2, h3⟩ := h
  refine ⟨by simpa using h1, fun t ht => ?_, fun t ht hn => ?_⟩
  · rw [List.getElem?_set_ne (by omega), List.getElem?_set_ne (i := k * 3 + 2) (by omega)]
    by_cases e : t = k
    · subst e
      rw [List.getElem?_set_ne (by omega), List.getElem?_set_self (by omega), List.getElem?_set_self (by simp; omega)]
      exact ⟨rfl, rfl⟩
    · rw [List.getElem?_set_ne (by omega), List.getElem?_set_ne (by omega), List.getElem?_set_ne (by omega), List.getElem?_set_ne (by omega)]
      exact h2 t (by omega)
  · rw [List.getElem?_set_ne (by omega), List.getElem?_set_ne (by omega), List.getElem?_set_ne (by omega)]
    exact h3 t (by omega) hn
theorem made_at (z : Array Value) (N i : Nat) (h : i < N) : (madeCells z N).toList[i]? = some z[i % z.size]! := by
  simp [madeCells, h]
theorem madeRecs (n : Nat) : ∀ t, t < n → (madeCells (Value.agg #[.int .i64 0, .int .i64 0, .slice none 0 0]).cells (n * 3)).toList[t * 3 + 2]? = some (.slice none 0 0) := fun t ht => by
  rw [made_at _ _ _ (by omega)]
  have : (t * 3 + 2) % 3 = 2 := by omega
  simp [Value.cells, this]

theorem Sub.farRow {w : World} {lo hi lo2 g i st pos k n m c sz : Nat} {ys zs : List Value} {L : Nat → List Int} {v : Value} {T : TypeId} (h : Sub w lo hi ys st pos L k n) (ho : w.ownsRow lo2 T sz (.slice (some ⟨g, 0, none⟩) m c) m zs) (hT : T ≠ 3) :
    Sub (w.setCell ⟨g, i, none⟩ v) lo hi ys st pos L k n := by
  rcases ho.2 with ⟨h0, _⟩ | ⟨g', cap, cur, hv, _, hg, _⟩
  · cases h0
  · injection hv with hv
    injection hv with hv
    injection hv with hv
    subst hv
    exact h.far hg hT
theorem row_three {w : World} {lo n c g k : Nat} {T : TypeId} {ys : List Value} (h : w.ownsRow lo T 3 (.slice (some ⟨g, 0, none⟩) n c) n ys) (hk : k < n) :
    (∃ u, w.cell? ⟨g, k * 3, none⟩ = some u) ∧ (∃ u, w.cell? ⟨g, k * 3 + 1, none⟩ = some u) ∧ (∃ u, w.cell? ⟨g, k * 3 + 2, none⟩ = some u) ∧ w.frozen? ⟨g, k * 3, none⟩ = false ∧ w.frozen? ⟨g, k * 3 + 1, none⟩ = false ∧ w.frozen? ⟨g, k * 3 + 2, none⟩ = false := by
  have hl := h.1
  refine ⟨⟨ys[k * 3]'(by omega), ?_⟩, ⟨ys[k * 3 + 1]'(by omega), ?_⟩, ⟨ys[k * 3 + 2]'(by omega), ?_⟩, World.ownsRow.frozenAt h _, World.ownsRow.frozenAt h _, World.ownsRow.frozenAt h _⟩
  · rw [World.ownsRow.cellAt h _ (by omega), List.getElem?_eq_getElem]
  · rw [World.ownsRow.cellAt h _ (by omega), List.getElem?_eq_getElem]
  · rw [World.ownsRow.cellAt h _ (by omega), List.getElem?_eq_getElem]
theorem grown_none {w w' : World} (h : Below w.heap.size w w') (r : Option Nat) : w.grownBy w' r := ⟨h.os, h.tape, h.output, h.size, fun k hk _ => h.block k hk⟩

/-- One round of the turning of records. -/
theorem recs_step {wr w2 : World} {lo k n V2n c2 g : Nat} {V2 : Option Addr} {rs : List RecD} {ys : List Value} (hag : AgreeR rs ys n k) (ho : wr.ownsRow lo 135 3 (.slice (some ⟨g, 0, none⟩) n n) n ys) (hs : Sub wr lo wr.heap.size ys 3 2 (upTo (rV rs) k) 0 n)
    (hlo : lo ≤ wr.heap.size) (hk : k < n) (hb : Below wr.heap.size wr w2) (hV : (rV rs k).length = V2n) (hv : OwnI w2 wr.heap.size w2.heap.size V2 V2n c2 (rV rs k)) :
    ∃ zs, AgreeR rs zs n (k + 1) ∧ (((w2.setCell ⟨g, k * 3, none⟩ (.int .i64 (rA rs k))).setCell ⟨g, k * 3 + 1, none⟩ (.int .i64 (rH rs k))).setCell ⟨g, k * 3 + 2, none⟩ (.slice V2 V2n c2)).ownsRow lo 135 3 (.slice (some ⟨g, 0, none⟩) n n) n zs ∧
      Sub (((w2.setCell ⟨g, k * 3, none⟩ (.int .i64 (rA rs k))).setCell ⟨g, k * 3 + 1, none⟩ (.int .i64 (rH rs k))).setCell ⟨g, k * 3 + 2, none⟩ (.slice V2 V2n c2)) lo w2.heap.size zs 3 2 (upTo (rV rs) (k + 1)) 0 n := by
  subst hV
  have o2 := row_below ho hb
  have s2 := hs.set (V2 := V2) (c2 := c2) (l := rV rs k) (i := k) (w' := w2) (by omega) hk hag.1 (hag.2.2 k (Nat.le_refl _) hk) (grown_none hb _) (hv.own.mono hlo) hv.small (by
    cases e : rowOf V2 with
    | none => exact .inl rfl
    | some b => exact .inr (.inr ⟨b, rfl, (hv.own.row_ge b e).1⟩))
  rw [upTo_step] at s2
  have a1 := (World.ownsRow.stored o2 (k * 3) (.int .i64 (rA rs k))).1
  have a2 := (World.ownsRow.stored a1 (k * 3 + 1) (.int .i64 (rH rs k))).1
  have a3 := (World.ownsRow.stored a2 (k * 3 + 2) (.slice V2 (rV rs k).length c2)).1
  refine ⟨_, hag.step hk _, a3, ?_⟩
  refine (((s2.farRow o2 (by decide)).farRow a1 (by decide)).farRow a2 (by decide)).cells fun j _ hj => ?_
  by_cases e : j = k
  · subst e
    have := hag.1
    rw [List.getElem?_set_self (by simp; omega), List.getElem?_set_self (by omega)]
  · rw [List.getElem?_set_ne (by omega), List.getElem?_set_ne (by omega), List.getElem?_set_ne (by omega), List.getElem?_set_ne (by omega)]

set_option maxHeartbeats 800000 in
theorem toRecordS_law (A : Option Addr) (n c : Nat) (rs : List RecD) (w : World) (hx : RecsR w A n rs) (hn : n ≤ 1099511627776) (hs : ∀ j, j < n → (rV rs j).length ≤ 1099511627776) :
    Calls Tryz.prog 54 #[.slice A n c] w fun e w' => ∃ A' c', e = .returned (.slice A' n c') ∧ OwnRc w' w.heap.size w'.heap.size A' n c' rs ∧ Below w.heap.size w w' := by
  obtain ⟨i0, hi, hz0, hz1, hz2⟩ := info_parts Tryz.infoRecord
  go_enter Tryz.func54, Tryz.ntmps54
  go_wp2_with (at_make; refine wpList_make_full _ rfl _ _ 38 rfl w.heap.size 135 i0 _ 3 Tryz.underlying38 hi hz0 hz1 .i64 .i64 _ _ n rfl rfl rfl rfl (by rw [hz2]; omega) (by unfold maxLen; omega) (Nat.le_refl _) ?_; intro w1 hown hg)
  have hA : AgreeR rs (madeCells (Value.agg #[.int .i64 0, .int .i64 0, .slice none 0 0]).cells (n * 3)).toList n 0 := ⟨hown.1, fun t ht => absurd ht (by omega), fun t _ ht => madeRecs n t ht⟩
  generalize (madeCells (Value.agg #[.int .i64 0, .int .i64 0, .slice none 0 0]).cells (n * 3)).toList = y0 at *
  have hb1 : Below w.heap.size w w1 := (Below.refl _ _).grown hg (Nat.le_refl _) (by simp)
  have hS : Sub w1 w.heap.size w1.heap.size y0 3 2 (upTo (rV rs) 0) 0 n := Sub.nils (fun j hj => hA.2.2 j (Nat.zero_le _) hj) (fun j _ => by simp [upTo])
  clear hg hi hz0 hz1 hz2
  go_loopw [4] (fun i wr => ∃ (k : Nat) (ys : List Value), k ≤ n ∧ i = .int .i64 k ∧ AgreeR rs ys n k ∧ wr.ownsRow w.heap.size 135 3 (.slice (some ⟨w.heap.size, 0, none⟩) n n) n ys ∧ Sub wr w.heap.size wr.heap.size ys 3 2 (upTo (rV rs) k) 0 n ∧ Below w.heap.size w wr) (fun i _ => n - (intOf i).toNat)
  case atStart => exact ⟨0, _, Nat.zero_le _, rfl, hA, hown, hS, hb1⟩
  case round =>
    clear hA hown hb1 hS
    obtain ⟨k, ys, hk, rfl, hag, hown, hsub, hbw⟩ := hrel
    by_cases hlt : k < n
    · obtain ⟨ad, rfl, hc, hc', V, m, cc, hc'', hv⟩ := (hx.below hbw).at_ hlt
      have hm : m ≤ 1099511627776 := by have := hs k hlt; rw [hv.1] at this; exact this
      have R1 := Lib.hid (fun w2 V2 c2 (hb : Below wr.heap.size wr w2) => recs_step (V2n := m) (c2 := c2) (V2 := V2) hag hown hsub hbw.size hlt hb hv.1)
      have HO := Lib.hid hown
      have HB := Lib.hid hbw
      have HV := Lib.hid hv
      clear hx hag hown hbw hsub hv hs
      obtain ⟨x, hxe⟩ : ∃ x, rA rs k = x := ⟨_, rfl⟩
      obtain ⟨y, hye⟩ : ∃ y, rH rs k = y := ⟨_, rfl⟩
      rw [hxe] at hc R1
      rw [hye] at hc' R1
      clear hxe hye
      go_wp2_with (go_at_call 111; refine (toRecord_any x y V m cc (rV rs k) _ HV.out hm).mono ?_; rintro e w2 ⟨V2, c2, rfl, o2, hb2⟩; obtain ⟨zs, r1, r2, r3⟩ := R1.out w2 V2 c2 hb2 o2; have R2 := Lib.hid r1; have R3 := Lib.hid r2; have R4 := Lib.hid r3; have R5 := Lib.hid (HB.out.trans (hb2.mono HB.out.size)); have R6 := Lib.hid (row_below HO.out hb2); obtain ⟨⟨u0, hu0⟩, ⟨u1, hu1⟩, ⟨u2, hu2⟩, hf0, hf1, hf2⟩ := row_three R6.out hlt; clear r1 r2 r3 o2 hb2)
      go_roundw
      case rel => exact ⟨k + 1, zs, by omega, by go_num, R2.out, R3.out, (R4.out.fit (Nat.le_refl _)), ((R5.out.setCell (Nat.le_refl _) _).setCell (Nat.le_refl _) _).setCell (Nat.le_refl _) _⟩
      case measure => simp [intOf]; omega
    · obtain rfl : k = n := by omega
      go_wp2
      go_ret
      refine ⟨_, _, rfl, ⟨hx.1, ⟨ys, hown, hag.2.1, hsub.fn fun j _ hj => by simp [upTo, hj]⟩, fun g hg => (World.ownsRow.lt hown g (by simpa [rowOf, Value.ownBlock] using hg)).2, hn⟩, hbw⟩
end

section
open Go.RowKit

def SomeText (w : World) (e : Ending) (w' : World) : Prop := ∃ s : ByteArray, e = .returned (.string s) ∧ Below w.heap.size w w'

theorem one_text (x : Int) : (strOfNums [x]).size = 1 := rfl

set_option maxRecDepth 100000 in
set_option maxHeartbeats 800000 in
theorem markText_any (n : Int) (w : World) (h0 : 0 ≤ n) (h1 : n ≤ 4611686018427387904) :
    Calls Tryz.prog 142 #[.int .i64 n] w (SomeText w) := by
  go_enter Tryz.func142, Tryz.ntmps142
  by_cases hz : n ≤ 0
  · go_wp2
    go_ret
    exact ⟨_, rfl, Below.refl _ _⟩
  go_wp2
  go_loopw [0, 3] (fun a b wr => ∃ (k : Int) (s : ByteArray), a = .int .i64 k ∧ b = .string s ∧ 0 ≤ k ∧ s.size + k ≤ n ∧ Below w.heap.size w wr) (fun a _ _ => (intOf a).toNat)
  case atStart => exact ⟨n, _, rfl, rfl, h0, by have : (ByteArray.mk #[]).size = 0 := rfl; omega, Below.refl _ _⟩
  case round =>
    obtain ⟨k, s, rfl, rfl, hk0, hks, hbw⟩ := hrel
    by_cases hk : 0 < k
    · have hcell : ∀ i, i < 1 → (wr.alloc (.cells #[.int .u8 (48 + k % 10)] 5)).cell? ⟨wr.heap.size, 0 + i, none⟩ = some (.int .u8 ([48 + k % 10].getD i 0)) := fun i hi => by
        obtain rfl : i = 0 := by omega
        exact box_cell (box_new wr _ _) 0 _ rfl
      have hcv := run_convert_bytes_arg (P := Tryz.prog) (wr.alloc (.cells #[.int .u8 (48 + k % 10)] 5)) 65 5 Tryz.underlying65 Tryz.underlying5 wr.heap.size 0 1 1 [48 + k % 10] rfl hcell 9 Tryz.underlying9
      clear hcell
      have ho := one_text (48 + k % 10)
      generalize strOfNums [48 + k % 10] = t at *
      have hb2 := hbw.alloc hbw.size (.cells #[.int .u8 (48 + k % 10)] 5)
      have HS := Lib.hid (show ((t ++ s).size : Int) + k / 10 ≤ n by rw [ByteArray.size_append]; omega)
      have hsz : t.size + s.size ≤ 9223372036854775807 := by omega
      clear ho
      go_wp2
      go_roundw
      case rel => exact ⟨k / 10, t ++ s, rfl, rfl, by omega, HS.out, hb2⟩
      case measure => simp [intOf]; omega
    · go_wp2
      go_ret
      exact ⟨_, rfl, hbw⟩

theorem row_head {w : World} {lo n c sz : Nat} {T : TypeId} {A : Option Addr} {ys : List Value} (h : w.ownsRow lo T sz (.slice A n c) n ys) (hn : 0 < n) : ∃ g, A = some ⟨g, 0, none⟩ ∧ lo ≤ g ∧ g < w.heap.size := by
  rcases h.2 with ⟨_, h0⟩ | ⟨g, cap, cur, hv, hb, hg, _⟩
  · omega
  · injection hv with hA
    exact ⟨g, hA, hb, lt_of_block hg⟩
theorem row_ne {w : World} {B lo n c sz m d g : Nat} {T : TypeId} {V : Option Addr} {xs : List Int} {ys : List Value} (ho : Own w B V m d xs) (h : w.ownsRow lo T sz (.slice (some ⟨g, 0, none⟩) n c) n ys) (hT : T ≠ 3) : rowOf V ≠ some g := by
  intro e
  rcases h.2 with ⟨h0, _⟩ | ⟨g', cap, cur, hv, _, hg, _⟩
  · cases h0
  · injection hv with hv
    injection hv with hv
    injection hv with hv
    subst hv
    rcases ho.2 with ⟨h0, _⟩ | ⟨b', cap', cur', hv', _, hh, _⟩
    · injection h0 with h0; subst h0; cases e
    · injection hv' with hv'
      subst hv'
      simp only [rowOf, Option.some.injEq] at e
      subst e
      rw [hg] at hh
      injection hh with hh
      injection hh with _ hh
      exact hT hh

set_option maxRecDepth 100000 in
set_option maxHeartbeats 800000 in
theorem markVariableS_law (A : Option Addr) (lo hi n c : Nat) (k0 : Int) (vs : List (ByteArray × Int)) (w : World) (hx : OwnV w lo hi A n c vs) (h0 : 0 ≤ k0) (h1 : k0 ≤ 2305843009213693952) :
    Calls Tryz.prog 80 #[.slice A n c, .int .i64 k0] w fun e w' => e = .returned (.int .i64 (k0 + 2 * n)) ∧ Chg lo hi w w' := by
  have hn := hx.small
  have htop := hx.top
  have hown := hx.own
  generalize vcells vs = y0 at *
  clear hx
  go_enter Tryz.func80, Tryz.ntmps80
  go_wp2
  go_loopw [1, 5] (fun a i wr => ∃ (j : Nat) (ys : List Value), j ≤ n ∧ i = .int .i64 j ∧ a = .int .i64 (k0 + 2 * j) ∧ wr.ownsRow lo 133 2 (.slice A n c) n ys ∧ Chg lo hi w wr) (fun _ i _ => n - (intOf i).toNat)
  case atStart => exact ⟨0, _, Nat.zero_le _, rfl, by go_num, hown, Chg.refl _ _ _⟩
  case round =>
    clear hown
    obtain ⟨j, ys, hj, rfl, rfl, hown, hbw⟩ := hrel
    by_cases hjn : j < n
    · obtain ⟨g, rfl, hlg, hgs⟩ := row_head hown (by omega)
      have hgh := htop g rfl
      have HO := Lib.hid hown
      have HB := Lib.hid hbw
      clear hown hbw
      go_wp2_with (go_at_call 142; refine (markText_any _ _ (by omega) (by omega)).mono ?_; rintro e w2 ⟨s, rfl, hb2⟩; have R2 := Lib.hid (row_below HO.out hb2); have R3 := Lib.hid (HB.out.then_ hb2); obtain ⟨⟨u0, hu0⟩, ⟨u1, hu1⟩, hf0, hf1⟩ := row_two R2.out hjn)
      go_roundw
      case rel => exact ⟨j + 1, _, by omega, by go_num, by go_num, (World.ownsRow.stored (World.ownsRow.stored R2.out (j * 2) _).1 (j * 2 + 1) _).1, (R3.out.set hlg hgh).set hlg hgh⟩
      case measure => simp [intOf]; omega
    · obtain rfl : j = n := by omega
      go_wp2
      go_ret
      exact ⟨rfl, hbw⟩

set_option maxRecDepth 100000 in
set_option maxHeartbeats 800000 in
theorem markRecordS_law (A : Option Addr) (lo hi n c : Nat) (k0 : Int) (rs : List RecD) (w : World) (hx : OwnRc w lo hi A n c rs) (hn : n ≤ 1048576) (hs : ∀ j, j < n → (rV rs j).length ≤ 1048576) (h0 : 0 ≤ k0) (h1 : k0 ≤ 2305843009213693952) :
    Calls Tryz.prog 81 #[.slice A n c, .int .i64 k0] w fun e w' => (∃ r, e = .returned (.int .i64 r) ∧ k0 ≤ r ∧ r ≤ k0 + 1099513724928) ∧ Chg lo hi w w' := by
  have htop := hx.top
  obtain ⟨y0, hown, _, hsub⟩ := hx.cells
  clear hx
  go_enter Tryz.func81, Tryz.ntmps81
  go_wp2
  go_loopw [1, 5] (fun a i wr => ∃ (j : Nat) (r : Int) (ys : List Value), j ≤ n ∧ i = .int .i64 j ∧ a = .int .i64 r ∧ k0 ≤ r ∧ r ≤ k0 + 1048578 * j ∧ wr.ownsRow lo 135 3 (.slice A n c) n ys ∧ Sub wr lo hi ys 3 2 (rV rs) j n ∧ Chg lo hi w wr) (fun _ i _ => n - (intOf i).toNat)
  case atStart => exact ⟨0, k0, y0, Nat.zero_le _, rfl, rfl, by omega, by omega, hown, hsub, Chg.refl _ _ _⟩
  case round =>
    clear hown hsub
    obtain ⟨j, r, ys, hj, rfl, rfl, hr0, hr1, hown, hsub, hbw⟩ := hrel
    by_cases hjn : j < n
    · obtain ⟨g, rfl, hlg, hgs⟩ := row_head hown (by omega)
      have hgh := htop g rfl
      obtain ⟨V, cc, e2, hV⟩ := hsub.row j (Nat.le_refl _) hjn
      have hm := hs j hjn
      generalize (rV rs j).length = m at *
      have a1 := (World.ownsRow.stored hown (j * 3) (.int .i64 r)).1
      have a2 := (World.ownsRow.stored a1 (j * 3 + 1) (.int .i64 (r + 1))).1
      have s2 := ((hsub.farRow (i := j * 3) (v := .int .i64 r) hown (by decide)).farRow (i := j * 3 + 1) (v := .int .i64 (r + 1)) a1 (by decide)).cells (zs := (ys.set (j * 3) (.int .i64 r)).set (j * 3 + 1) (.int .i64 (r + 1))) (fun t _ ht => by
        rw [List.getElem?_set_ne (by omega), List.getElem?_set_ne (by omega)])
      have e3 : ((ys.set (j * 3) (.int .i64 r)).set (j * 3 + 1) (.int .i64 (r + 1)))[j * 3 + 2]? = some (.slice V m cc) := by
        rw [List.getElem?_set_ne (by omega), List.getElem?_set_ne (by omega)]; exact e2
      have c2 := (hbw.set (i := j * 3) (v := .int .i64 r) hlg hgh).set (i := j * 3 + 1) (v := .int .i64 (r + 1)) hlg hgh
      obtain ⟨V', cc', e3', hV'⟩ := s2.row j (Nat.le_refl _) hjn
      obtain ⟨⟨u0, hu0⟩, ⟨u1, hu1⟩, -, hf0, hf1, -⟩ := row_three hown hjn
      have hc2 : wr.cell? ⟨g, j * 3 + 2, none⟩ = some (.slice V m cc) := (World.ownsRow.cellAt hown (j * 3 + 2) (by have := hown.1; omega)).trans e2
      rw [e3] at e3'
      simp only [Option.some.injEq, Value.slice.injEq] at e3'
      obtain ⟨rfl, em, rfl⟩ := e3'
      rw [← em] at hV'
      clear em
      have Q := Lib.hid (fun w3 (hg : ((wr.setCell ⟨g, j * 3, none⟩ (.int .i64 r)).setCell ⟨g, j * 3 + 1, none⟩ (.int .i64 (r + 1))).grownBy w3 (rowOf V)) => And.intro (s2.mark hjn e3 hg) (And.intro (World.ownsRow.kept a2 hg (by
        have := row_ne hV'.own a2 (by decide)
        exact .inr (fun e => this e.symm))) (c2.trans (Chg.of_grown hg hV'.row))))
      have HV := Lib.hid hV'.own
      clear hown hsub hV a1 a2 s2 c2 hbw hs e2 e3 hV'
      go_wp2_with (go_at_call 29; refine (markIntS_any V lo m cc (r + 1 + 1) (rV rs j) _ HV.out (by omega) (by omega) (by omega)).mono ?_; rintro e w3 ⟨rfl, _, hg3⟩; obtain ⟨q1, q2, q3⟩ := Q.out w3 hg3; have Q1 := Lib.hid q1; have Q2 := Lib.hid q2; have Q3 := Lib.hid q3; clear q1 q2 q3 hg3)
      go_roundw
      case rel => exact ⟨j + 1, r + 1 + 1 + m, _, by omega, by go_num, rfl, by omega, by omega, Q2.out, Q1.out, Q3.out⟩
      case measure => simp [intOf]; omega
    · obtain rfl : j = n := by omega
      go_wp2
      go_ret
      exact ⟨⟨r, rfl, by omega, by omega⟩, hbw⟩
end
end Go.Proofs.YtfanpbfmnckmnaaGreat
