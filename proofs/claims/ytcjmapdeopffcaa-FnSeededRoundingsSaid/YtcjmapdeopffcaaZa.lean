/- Several small texts in one: Slices, Frame, Append, Box. -/
import Derived.Test.YtcjmapdeopffcaaRows
import Derived.WalkKit
import Derived.WalkSpells
import Derived.WalkLawsBesides
import Derived.WalkSmall
import Derived.BigQuiet
import Derived.Deep.QuietTactic
import Derived.Lib.Hide
import Derived.Maps.AppendAt
namespace Go.Proofs.Ytcjmapdeopffcaa

section
open Go.RowKit

theorem ret_int {k : IntKind} {a b : Int} (h : a = b) : Ending.returned (.int k a) = .returned (.int k b) := by rw [h]
theorem val_int {k : IntKind} {a b : Int} (h : a = b) : Value.int k a = .int k b := by rw [h]
theorem ret_bool {a b : Bool} (h : a = b) : Ending.returned (.bool a) = .returned (.bool b) := by rw [h]

/-- A slice of ints that reads as a list. -/
def Ints (w : World) (A : Option Addr) (n : Nat) (xs : List Int) : Prop :=
  xs.length = n ∧ (0 < n → ∃ ad, A = some ad ∧ ∀ j, j < n → w.cell? (ad.add j) = some (.int .i64 (xs[j]?.getD 0)))

theorem block_lt_of_cell {w : World} {a : Addr} {v : Value} (h : w.cell? a = some v) : a.block < w.heap.size := by
  rcases Nat.lt_or_ge a.block w.heap.size with hlt | hge
  · exact hlt
  · unfold World.cell? at h
    rw [Array.getElem?_eq_none hge] at h
    cases h

section
variable {w w' : World} {A : Option Addr} {n c B B' : Nat} {xs : List Int}

theorem Ints.at_ {k : Nat} (h : Ints w A n xs) (hk : k < n) : ∃ ad, A = some ad ∧ w.cell? (ad.add k) = some (.int .i64 (xs[k]?.getD 0)) := by
  obtain ⟨ad, e, hc⟩ := h.2 (by omega)
  exact ⟨ad, e, hc k hk⟩
theorem Ints.nil_ : Ints w A 0 [] := ⟨rfl, fun h => absurd h (by omega)⟩
theorem Ints.of_row {ad : Addr} {len cap : Nat} {zs : List Int} (hz : cap ≤ zs.length) (hl : len ≤ cap) (hc : ∀ i, i < zs.length → w.cell? (ad.add i) = some (.int .i64 (zs.getD i 0))) : Ints w (some ad) len (zs.take len) := by
  refine ⟨by rw [List.length_take]; omega, fun _ => ⟨ad, rfl, fun j hj => ?_⟩⟩
  rw [hc j (by omega), List.getElem?_take, if_pos hj]
  rfl
theorem Ints.below (h : Ints w A n xs) (hb : Below w.heap.size w w') : Ints w' A n xs :=
  ⟨h.1, fun hn => by
    obtain ⟨ad, e, hc⟩ := h.2 hn
    exact ⟨ad, e, fun j hj => (hb.cell (block_lt_of_cell (hc j hj))).trans (hc j hj)⟩⟩
theorem Ints.drewN (h : Ints w A n xs) (q : Nat) : Ints (w.drewN q) A n xs := h
theorem Ints.alloc (h : Ints w A n xs) (o : Obj) : Ints (w.alloc o) A n xs := h.below ((Below.refl _ _).alloc (Nat.le_refl _) o)

/-- A row of the call's own, numbers from B on, that holds a list. -/
def Own (w : World) (B : Nat) (A : Option Addr) (n c : Nat) (xs : List Int) : Prop :=
  w.ownsRow B 3 1 (.slice A n c) n (xs.map (Value.int .i64))

theorem Own.len (h : Own w B A n c xs) : xs.length = n := by
  have := h.1
  simpa using this
theorem Own.nil_ : Own w B none 0 0 [] := World.ownsRow_nil _ _ _ _
theorem Own.head (h : Own w B A n c xs) (hn : 0 < n) : ∃ g, A = some ⟨g, 0, none⟩ ∧ B ≤ g ∧ g < w.heap.size := by
  rcases h.2 with ⟨_, h0⟩ | ⟨g, cap, cur, hv, hb, hg, _⟩
  · omega
  · injection hv with hA
    exact ⟨g, hA, hb, lt_of_block hg⟩
theorem Own.at_ {k : Nat} (h : Own w B A n c xs) (hk : k < n) : ∃ g, A = some ⟨g, 0, none⟩ ∧ B ≤ g ∧ g < w.heap.size ∧
    w.cell? ⟨g, k, none⟩ = some (.int .i64 (xs[k]?.getD 0)) ∧ w.frozen? ⟨g, k, none⟩ = false := by
  obtain ⟨g, rfl, hb, hlt⟩ := h.head (by omega)
  refine ⟨g, rfl, hb, hlt, ?_, World.ownsRow.frozenAt h k⟩
  rw [World.ownsRow.cellAt h k (by omega)]
  have := h.len
  rw [List.getElem?_map, List.getElem?_eq_getElem (by omega)]
  rfl
theorem Own.ints (h : Own w B A n c xs) : Ints w A n xs := by
  refine ⟨h.len, fun hn => ?_⟩
  obtain ⟨g, rfl, _⟩ := h.head hn
  refine ⟨_, rfl, fun j hj => ?_⟩
  obtain ⟨g', e, _, _, hc, _⟩ := h.at_ hj
  simp only [Option.some.injEq, Addr.mk.injEq, and_true] at e
  subst e
  have : (⟨g, 0, none⟩ : Addr).add j = ⟨g, j, none⟩ := by
    unfold Addr.add
    split
    · rename_i h0; rw [h0]
    · simp
  rw [this]
  exact hc
theorem Own.set {g k : Nat} {x : Int} (h : Own w B (some ⟨g, 0, none⟩) n c xs) : Own (w.setCell ⟨g, k, none⟩ (.int .i64 x)) B (some ⟨g, 0, none⟩) n c (xs.set k x) := by
  have := (World.ownsRow.stored h k (.int .i64 x)).1
  unfold Own
  rw [List.map_set]
  exact this
theorem Own.mono (h : Own w B A n c xs) (hB : B' ≤ B) : Own w B' A n c xs := by
  refine ⟨h.1, ?_⟩
  rcases h.2 with h0 | ⟨g, cap, cur, hv, hb, hr⟩
  · exact .inl h0
  · exact .inr ⟨g, cap, cur, hv, by omega, hr⟩
theorem Own.keep (h : Own w B A n c xs) (hk : ∀ g, A = some ⟨g, 0, none⟩ → g < w.heap.size → w'.heap[g]? = w.heap[g]?) : Own w' B A n c xs := by
  refine ⟨h.1, ?_⟩
  rcases h.2 with h0 | ⟨g, cap, cur, hv, hb, hg, hr⟩
  · exact .inl h0
  · refine .inr ⟨g, cap, cur, hv, hb, ?_, hr⟩
    injection hv with hA
    rw [hk g hA (lt_of_block hg)]
    exact hg
theorem Own.below (h : Own w B A n c xs) (hb : Below w.heap.size w w') : Own w' B A n c xs := h.keep fun g _ hg => hb.block g hg
theorem Own.drewN (h : Own w B A n c xs) (q : Nat) : Own (w.drewN q) B A n c xs := h
/-- The block of a row. -/
def rowOf : Option Addr → Option Nat
  | some a => some a.block
  | none => none
theorem Own.far {A' : Option Addr} (h : Own w B A n c xs) (hg : w.grownBy w' (rowOf A')) (hne : ∀ g, A = some ⟨g, 0, none⟩ → rowOf A' ≠ some g) : Own w' B A n c xs :=
  h.keep fun g hA hlt => hg.block g hlt (fun e => hne g hA e.symm)
end

section
variable {w w' : World} {A : Option Addr} {n c B B' : Nat} {xs : List Int}
theorem Own.row_ge (h : Own w B A n c xs) : ∀ k, rowOf A = some k → B ≤ k ∧ k < w.heap.size := by
  intro k hk
  rcases h.2 with ⟨hv, _⟩ | ⟨g, cap, cur, hv, hb, hg, _⟩
  · simp only [Value.slice.injEq] at hv
    obtain ⟨rfl, _⟩ := hv
    cases hk
  · simp only [Value.slice.injEq] at hv
    obtain ⟨rfl, _⟩ := hv
    simp only [rowOf, Option.some.injEq] at hk
    subst hk
    exact ⟨hb, lt_of_block hg⟩
theorem Own.size_lt {g : Nat} (h : Own w B (some ⟨g, 0, none⟩) n c xs) : g < w.heap.size := (h.row_ge g rfl).2
/-- A row from B on is kept by a write to a row below B. -/
theorem Own.far_lt {A' : Option Addr} (h : Own w B A n c xs) (hg : w.grownBy w' (rowOf A')) (hlt : ∀ k, rowOf A' = some k → k < B) : Own w' B A n c xs :=
  h.keep fun g hA hgl => hg.block g hgl (fun e => by
    have h1 := (h.row_ge g (by rw [hA]; rfl)).1
    have h2 := hlt g e.symm
    omega)
/-- A row at a known block is kept by a write to a row from beyond it on. -/
theorem Own.far_gt {A' : Option Addr} {g0 : Nat} (h : Own w B (some ⟨g0, 0, none⟩) n c xs) (hg : w.grownBy w' (rowOf A')) (hlt : ∀ k, rowOf A' = some k → g0 < k) : Own w' B (some ⟨g0, 0, none⟩) n c xs :=
  h.keep fun g hA hgl => hg.block g hgl (fun e => by
    simp only [Option.some.injEq, Addr.mk.injEq, and_true] at hA
    have h2 := hlt g e.symm
    omega)
theorem below_write {w0 : World} (hb : Below B w0 w) (hg : w.grownBy w' (rowOf A)) (hB : B ≤ w.heap.size) (hr : ∀ k, rowOf A = some k → B ≤ k) : Below B w0 w' := hb.grown hg hB hr
theorem below_app {w0 wr w2 : World} {o : Obj} (hb : Below B w0 wr) (hown : Own wr B A n c xs) (hB : B ≤ wr.heap.size) (hg : (wr.alloc o).grownBy w2 (rowOf A)) : Below B w0 w2 :=
  (hb.alloc hB o).grown hg (by simp; omega) (fun k hk => (hown.row_ge k hk).1)
end

/-- The list of f 0, f 1, .. -/
def tabl (n : Nat) (f : Nat → Int) : List Int := (List.range n).map f
theorem tabl_len (n : Nat) (f : Nat → Int) : (tabl n f).length = n := by simp [tabl]
theorem tabl_at {n i : Nat} {f : Nat → Int} (h : i < n) : (tabl n f)[i]?.getD 0 = f i := by simp [tabl, h]
theorem tabl_succ (n : Nat) (f : Nat → Int) : tabl (n + 1) f = tabl n f ++ [f n] := by simp [tabl, List.range_succ]
theorem tabl_self (xs : List Int) : tabl xs.length (fun i => xs[i]?.getD 0) = xs := by
  apply List.ext_getElem?
  intro i
  rcases Nat.lt_or_ge i xs.length with h | h
  · simp [tabl, h]
  · rw [List.getElem?_eq_none h, List.getElem?_eq_none (by rw [tabl_len]; exact h)]
/-- The first index below n of which p says no, or n. -/
def firstNo (p : Nat → Bool) (n : Nat) : Nat := ((List.range n).find? (fun i => !p i)).getD n
theorem firstNo_at {p : Nat → Bool} {n k : Nat} (h : ∀ j, j < k → p j = true) (hk : k < n) (hp : p k = false) : firstNo p n = k := by
  unfold firstNo
  have : (List.range n).find? (fun i => !p i) = some k := by
    rw [List.find?_range_eq_some]
    exact ⟨by simp [hp], by simpa using hk, fun j hj => by simp [h j hj]⟩
  rw [this]; rfl
theorem firstNo_end {p : Nat → Bool} {n : Nat} (h : ∀ j, j < n → p j = true) : firstNo p n = n := by
  unfold firstNo
  have : (List.range n).find? (fun i => !p i) = none := by
    rw [List.find?_eq_none]
    intro x hx
    simp [h x (by simpa using hx)]
  rw [this]; rfl

theorem grownBy_trans {a b d : World} {r : Option Nat} (h : a.grownBy b r) (k : b.grownBy d r) : a.grownBy d r :=
  ⟨k.os.trans h.os, k.tape.trans h.tape, k.output.trans h.output, Nat.le_trans h.size k.size, fun i hi hne => (k.block i (Nat.lt_of_lt_of_le hi h.size) hne).trans (h.block i hi hne)⟩
theorem grownBy_set {a b : World} {g k : Nat} {v : Value} (h : a.grownBy b (some g)) : a.grownBy (b.setCell ⟨g, k, none⟩ v) (some g) :=
  grownBy_trans h ⟨rfl, rfl, rfl, by simp, fun i _ hne => Below.heap_setCell b ⟨g, k, none⟩ v i (fun e => hne (by rw [e]))⟩

theorem Try.infoInt : (Try.prog.info? 3).map (fun i => (i.zero, i.size, i.bytes)) = some (some (.int .i64 0), 1, 8) := by kernel_rfl

theorem map_replicate0 (n : Nat) : (madeCells (Value.int .i64 0).cells (n * 1)).toList = (List.replicate n (0 : Int)).map (Value.int .i64) := by
  rw [Nat.mul_one, List.map_replicate]
  exact toList_madeCells_one _ _

theorem fill_set {xs ys : List Int} {n k : Nat} (hl : xs.length = n) (hy : ys.length = n) (hk : k < n) (h : ∀ t, t < k → ys[t]? = xs[t]?) :
    (ys.set k (xs[k]?.getD 0)).length = n ∧ ∀ t, t < k + 1 → (ys.set k (xs[k]?.getD 0))[t]? = xs[t]? := by
  refine ⟨by simpa using hy, fun t ht => ?_⟩
  rcases Nat.lt_or_ge t k with h1 | h1
  · rw [List.getElem?_set_ne (by omega)]; exact h t h1
  · obtain rfl : t = k := by omega
    rw [List.getElem?_set_self (by omega), List.getElem?_eq_getElem (by omega)]
    rfl
theorem fill_end {xs ys : List Int} {n k : Nat} (hl : xs.length = n) (hy : ys.length = n) (hk : n ≤ k) (h : ∀ t, t < k → ys[t]? = xs[t]?) : ys = xs := by
  apply List.ext_getElem?
  intro t
  rcases Nat.lt_or_ge t n with h1 | h1
  · exact h t (by omega)
  · rw [List.getElem?_eq_none (by omega), List.getElem?_eq_none (by omega)]

/-- ys agrees with xs below k. -/
def Agree (xs ys : List Int) (n k : Nat) : Prop := ys.length = n ∧ ∀ t, t < k → ys[t]? = xs[t]?
theorem Agree.start (n : Nat) (xs : List Int) : Agree xs (List.replicate n 0) n 0 := ⟨by simp, fun t ht => absurd ht (by omega)⟩
theorem Agree.step {xs ys : List Int} {n k : Nat} (h : Agree xs ys n k) (hl : xs.length = n) (hk : k < n) : Agree xs (ys.set k (xs[k]?.getD 0)) n (k + 1) :=
  fill_set hl h.1 hk h.2
theorem Agree.fin {xs ys : List Int} {n k : Nat} (h : Agree xs ys n k) (hl : xs.length = n) (hk : n ≤ k) : ys = xs := fill_end hl h.1 hk h.2

set_option maxHeartbeats 400000 in
theorem toIntS_any (A : Option Addr) (n c : Nat) (xs : List Int) (w : World) (hx : Ints w A n xs) (hn : n ≤ 1099511627776) :
    Calls Try.prog 35 #[.slice A n c] w fun e w' => e = .returned (.slice (some ⟨w.heap.size, 0, none⟩) n n) ∧ Own w' w.heap.size (some ⟨w.heap.size, 0, none⟩) n n xs ∧ Below w.heap.size w w' := by
  obtain ⟨i0, hi, hz0, hz1, hz2⟩ := info_parts Try.infoInt
  go_enter Try.func35, Try.ntmps35
  go_wp2_with (at_make; refine wpList_make_full _ rfl _ _ 24 rfl w.heap.size 3 i0 _ 1 Try.underlying24 hi hz0 hz1 .i64 .i64 _ _ n rfl rfl rfl rfl (by rw [hz2]; omega) (by unfold maxLen; omega) (Nat.le_refl _) ?_; intro w1 hown hg)
  rw [map_replicate0] at hown
  have hO : Own w1 w.heap.size (some ⟨w.heap.size, 0, none⟩) n n (List.replicate n 0) := hown
  have hb1 : Below w.heap.size w w1 := (Below.refl _ _).grown hg (Nat.le_refl _) (by simp)
  clear hown hg hi hz0 hz1 hz2
  go_loopw [4] (fun i wr => ∃ (k : Nat) (ys : List Int), k ≤ n ∧ i = .int .i64 k ∧ Agree xs ys n k ∧ Own wr w.heap.size (some ⟨w.heap.size, 0, none⟩) n n ys ∧ Below w.heap.size w wr) (fun i _ => n - (intOf i).toNat)
  case atStart => exact ⟨0, _, Nat.zero_le _, rfl, Agree.start _ _, hO, hb1⟩
  case round =>
    clear hO hb1
    obtain ⟨k, ys, hk, rfl, hag, hown, hbw⟩ := hrel
    by_cases hlt : k < n
    · obtain ⟨ad, rfl, hc⟩ := (hx.below hbw).at_ hlt
      obtain ⟨g, hge, _, hgl, hcg, hfg⟩ := hown.at_ hlt
      simp only [Option.some.injEq, Addr.mk.injEq, and_true] at hge
      subst hge
      have R1 := Lib.hid (hag.step hx.1 hlt)
      have R2 := Lib.hid (hown.set (k := k) (x := xs[k]?.getD 0))
      have R3 := Lib.hid (hbw.setCell (p := ⟨w.heap.size, k, none⟩) (Nat.le_refl _) (.int .i64 (xs[k]?.getD 0)))
      clear hx hag hown hbw hgl
      obtain ⟨x, hxe⟩ : ∃ x, xs[k]?.getD 0 = x := ⟨_, rfl⟩
      rw [hxe] at hc R1 R2 R3
      clear hxe
      go_wp2
      go_roundw
      case rel => exact ⟨k + 1, _, by omega, by go_num, R1.out, R2.out, R3.out⟩
      case measure => simp [intOf]; omega
    · have R := hag.fin hx.1 (by omega)
      subst R
      clear hag hx
      go_wp2
      go_ret
      exact ⟨rfl, hown, hbw⟩

set_option maxHeartbeats 400000 in
theorem eqIntS_true (A A' : Option Addr) (n c c' : Nat) (xs : List Int) (w : World) (hx : Ints w A n xs) (hy : Ints w A' n xs) (hn : n ≤ 1099511627776) :
    Calls Try.prog 43 #[.slice A n c, .slice A' n c'] w fun e w' => e = .returned (.bool true) ∧ ∃ q, w' = w.drewN q := by
  go_enter Try.func43, Try.ntmps43
  go_wp2
  go_loopw [5] (fun i wr => ∃ (k q : Nat), k ≤ n ∧ i = .int .i64 k ∧ wr = w.drewN q) (fun i _ => n - (intOf i).toNat)
  case atStart => exact ⟨0, 0, Nat.zero_le _, rfl, rfl⟩
  case round =>
    obtain ⟨k, q, hk, rfl, rfl⟩ := hrel
    by_cases hlt : k < n
    · obtain ⟨ad, rfl, hc⟩ := hx.at_ hlt
      obtain ⟨ad', rfl, hc'⟩ := hy.at_ hlt
      clear hx hy
      obtain ⟨x, hxe⟩ : ∃ x, xs[k]?.getD 0 = x := ⟨_, rfl⟩
      rw [hxe] at hc hc'
      clear hxe
      go_wp2
      go_quiet (fail)
      go_wp2
      go_roundw
      case rel => exact ⟨k + 1, _, by omega, by go_num, rfl⟩
      case measure => simp [intOf]; omega
    · go_wp2
      go_ret
      exact ⟨rfl, q, rfl⟩

/-- The numbers k, k + 1, .. that a mark leaves. -/
def marks (k : Int) (n : Nat) : List Int := (List.range n).map fun (i : Nat) => k + (i : Int)
theorem marks_len (k : Int) (n : Nat) : (marks k n).length = n := by simp [marks]
theorem marks_at {k : Int} {n i : Nat} (h : i < n) : (marks k n)[i]?.getD 0 = k + i := by
  simp [marks, h]

set_option maxHeartbeats 400000 in
theorem markIntS_any (A : Option Addr) (B n c : Nat) (k0 : Int) (xs : List Int) (w : World) (hx : Own w B A n c xs) (hn : n ≤ 1099511627776) (h0 : 0 ≤ k0) (h1 : k0 ≤ 4611686018427387904) :
    Calls Try.prog 44 #[.slice A n c, .int .i64 k0] w fun e w' => e = .returned (.int .i64 (k0 + n)) ∧ Own w' B A n c (marks k0 n) ∧ w.grownBy w' (rowOf A) := by
  have hml := Lib.hid (marks_len k0 n)
  have hma : Hid (∀ i, i < n → (marks k0 n)[i]?.getD 0 = k0 + i) := Lib.hid fun i h => marks_at h
  generalize marks k0 n = zs at *
  go_enter Try.func44, Try.ntmps44
  go_wp2
  go_loopw [1, 5] (fun a i wr => ∃ (k : Nat) (ys : List Int), k ≤ n ∧ i = .int .i64 k ∧ a = .int .i64 (k0 + k) ∧ Agree zs ys n k ∧ Own wr B A n c ys ∧ w.grownBy wr (rowOf A)) (fun _ i _ => n - (intOf i).toNat)
  case atStart => exact ⟨0, xs, Nat.zero_le _, rfl, by go_num, ⟨hx.len, fun t ht => absurd ht (by omega)⟩, hx, World.grownBy.refl _ _⟩
  case round =>
    clear hx
    obtain ⟨k, ys, hk, rfl, rfl, hag, hown, hbw⟩ := hrel
    by_cases hlt : k < n
    · obtain ⟨g, hge, _, hgl, hcg, hfg⟩ := hown.at_ hlt
      subst hge
      have R1 := Lib.hid (hag.step hml.out hlt)
      have R2 := Lib.hid (hown.set (k := k) (x := zs[k]?.getD 0))
      have R3 := Lib.hid (grownBy_set (k := k) (v := .int .i64 (zs[k]?.getD 0)) hbw)
      rw [hma.out k hlt] at R1 R2 R3
      clear hag hown hbw hgl
      go_wp2
      go_roundw
      case rel => exact ⟨k + 1, _, by omega, by go_num, by go_num, R1.out, R2.out, R3.out⟩
      case measure => simp [intOf]; omega
    · have R := hag.fin hml.out (by omega)
      subst R
      clear hag
      obtain rfl : n = k := by omega
      go_wp2
      go_ret
      exact ⟨rfl, hown, hbw⟩

set_option maxHeartbeats 400000 in
theorem heldIntS_any (A : Option Addr) (n c : Nat) (k0 : Int) (w : World) (hx : Ints w A n (marks k0 n)) (hn : n ≤ 1099511627776) (h0 : 0 ≤ k0) (h1 : k0 ≤ 4611686018427387904) :
    Calls Try.prog 46 #[.slice A n c, .int .i64 k0] w fun e w' => e = .returned (.int .i64 (k0 + n)) ∧ w = w' := by
  have hma : Hid (∀ i, i < n → (marks k0 n)[i]?.getD 0 = k0 + i) := Lib.hid fun i h => marks_at h
  generalize marks k0 n = zs at *
  go_enter Try.func46, Try.ntmps46
  go_wp2
  go_loop [1, 5] (fun a i => ∃ (k : Nat), k ≤ n ∧ i = .int .i64 k ∧ a = .int .i64 (k0 + k)) (fun _ i => n - (intOf i).toNat)
  case atStart => exact ⟨0, Nat.zero_le _, rfl, by go_num⟩
  case round =>
    obtain ⟨k, hk, rfl, rfl⟩ := hrel
    by_cases hlt : k < n
    · obtain ⟨ad, rfl, hc⟩ := hx.at_ hlt
      rw [hma.out k hlt] at hc
      clear hx
      go_wp2
      go_round
      case rel => exact ⟨k + 1, by omega, by go_num, by go_num⟩
      case measure => simp [intOf]; omega
    · clear hx
      obtain rfl : n = k := by omega
      go_wp2
      go_ret
      exact ⟨rfl, rfl⟩
end

section
open Go.RowKit

/-- w' is w but for blocks from lo on and below hi, and new ones. -/
structure Chg (lo hi : Nat) (w w' : World) : Prop where
  os : w'.os = w.os
  tape : w'.tape = w.tape
  output : w'.output = w.output
  size : w.heap.size ≤ w'.heap.size
  block : ∀ k, k < w.heap.size → (k < lo ∨ hi ≤ k) → w'.heap[k]? = w.heap[k]?

theorem Chg.refl (lo hi : Nat) (w : World) : Chg lo hi w w := ⟨rfl, rfl, rfl, Nat.le_refl _, fun _ _ _ => rfl⟩
theorem Chg.trans {lo hi : Nat} {a b c : World} (h : Chg lo hi a b) (k : Chg lo hi b c) : Chg lo hi a c :=
  ⟨k.os.trans h.os, k.tape.trans h.tape, k.output.trans h.output, Nat.le_trans h.size k.size, fun i hi' ho => (k.block i (Nat.lt_of_lt_of_le hi' h.size) ho).trans (h.block i hi' ho)⟩
theorem Chg.mono {lo hi lo' hi' : Nat} {a b : World} (h : Chg lo hi a b) (h1 : lo' ≤ lo) (h2 : hi ≤ hi') : Chg lo' hi' a b :=
  ⟨h.os, h.tape, h.output, h.size, fun k hk ho => h.block k hk (by omega)⟩
theorem Chg.of_below {lo hi : Nat} {a b : World} (h : Below a.heap.size a b) : Chg lo hi a b := ⟨h.os, h.tape, h.output, h.size, fun k hk _ => h.block k hk⟩
theorem Chg.of_grown {lo hi : Nat} {a b : World} {A : Option Addr} (h : a.grownBy b (rowOf A)) (hr : ∀ k, rowOf A = some k → lo ≤ k ∧ k < hi) : Chg lo hi a b :=
  ⟨h.os, h.tape, h.output, h.size, fun k hk ho => h.block k hk (fun e => by have := hr k e.symm; omega)⟩
theorem Chg.below {lo hi B : Nat} {w0 a b : World} (h : Chg lo hi a b) (hb : Below B w0 a) (h1 : B ≤ lo) (h2 : B ≤ a.heap.size) : Below B w0 b :=
  ⟨h.os.trans hb.os, h.tape.trans hb.tape, h.output.trans hb.output, Nat.le_trans hb.size h.size, fun k hk => (h.block k (by omega) (.inl (by omega))).trans (hb.block k hk)⟩

/-- A row of ints of the call's own, in a block from lo on and below hi. -/
structure OwnI (w : World) (lo hi : Nat) (A : Option Addr) (n c : Nat) (xs : List Int) : Prop where
  own : Own w lo A n c xs
  top : ∀ k, rowOf A = some k → k < hi
  small : n ≤ 1099511627776
theorem OwnI.of_own {w : World} {B : Nat} {A : Option Addr} {n c : Nat} {xs : List Int} (h : Own w B A n c xs) (hn : n ≤ 1099511627776) : OwnI w B w.heap.size A n c xs :=
  ⟨h, fun k hk => (h.row_ge k hk).2, hn⟩
theorem OwnI.fit {w : World} {lo lo' hi : Nat} {A : Option Addr} {n c : Nat} {xs : List Int} (h : OwnI w lo hi A n c xs) (hl : lo' ≤ lo) : OwnI w lo' w.heap.size A n c xs := OwnI.of_own (h.own.mono hl) h.small
theorem OwnI.drew {w : World} {lo hi : Nat} {A : Option Addr} {n c : Nat} {xs : List Int} (h : OwnI w lo hi A n c xs) : OwnI w.drew lo hi A n c xs := ⟨h.own, h.top, h.small⟩
theorem OwnI.ints {w : World} {lo hi : Nat} {A : Option Addr} {n c : Nat} {xs : List Int} (h : OwnI w lo hi A n c xs) : Ints w A n xs := h.own.ints
theorem OwnI.below {w w' : World} {lo hi : Nat} {A : Option Addr} {n c : Nat} {xs : List Int} (h : OwnI w lo hi A n c xs) (hb : Below w.heap.size w w') : OwnI w' lo hi A n c xs :=
  ⟨h.own.below hb, h.top, h.small⟩
theorem OwnI.row {w : World} {lo hi : Nat} {A : Option Addr} {n c : Nat} {xs : List Int} (h : OwnI w lo hi A n c xs) : ∀ k, rowOf A = some k → lo ≤ k ∧ k < hi :=
  fun k hk => ⟨(h.own.row_ge k hk).1, h.top k hk⟩
theorem OwnI.chg {w w' : World} {lo hi lo' hi' : Nat} {A : Option Addr} {n c : Nat} {xs : List Int} (h : OwnI w lo hi A n c xs) (hc : Chg lo' hi' w w') (hd : hi ≤ lo' ∨ hi' ≤ lo) : OwnI w' lo hi A n c xs :=
  ⟨h.own.keep fun g hA hlt => hc.block g hlt (by
    have h1 := h.row g (by rw [hA]; rfl)
    omega), h.top, h.small⟩

theorem toIntS_law (A : Option Addr) (n c : Nat) (xs : List Int) (w : World) (hx : Ints w A n xs) (hn : n ≤ 1099511627776) :
    Calls Try.prog 35 #[.slice A n c] w fun e w' => ∃ A' c', e = .returned (.slice A' n c') ∧ OwnI w' w.heap.size w'.heap.size A' n c' xs ∧ Below w.heap.size w w' :=
  (toIntS_any A n c xs w hx hn).mono fun _ _ ⟨h1, h2, h3⟩ => ⟨_, _, h1, OwnI.of_own h2 hn, h3⟩

theorem eqIntS_law (A A' : Option Addr) (n c c' : Nat) (xs : List Int) (w : World) (hx : Ints w A n xs) (hy : Ints w A' n xs) (hn : n ≤ 1099511627776) :
    Calls Try.prog 43 #[.slice A n c, .slice A' n c'] w fun e w' => e = .returned (.bool true) ∧ Below w.heap.size w w' :=
  (eqIntS_true A A' n c c' xs w hx hy hn).mono fun _ _ ⟨h1, q, h2⟩ => ⟨h1, h2 ▸ below_drewN (Below.refl _ _) q⟩

theorem markIntS_law (A : Option Addr) (lo hi n c : Nat) (k0 : Int) (xs : List Int) (w : World) (hx : OwnI w lo hi A n c xs) (h0 : 0 ≤ k0) (h1 : k0 ≤ 4611686018427387904) :
    Calls Try.prog 44 #[.slice A n c, .int .i64 k0] w fun e w' => e = .returned (.int .i64 (k0 + n)) ∧ OwnI w' lo hi A n c (marks k0 n) ∧ Chg lo hi w w' :=
  (markIntS_any A lo n c k0 xs w hx.own hx.small h0 h1).mono fun _ _ ⟨h1, h2, h3⟩ => ⟨h1, ⟨h2, hx.top, hx.small⟩, Chg.of_grown h3 hx.row⟩

theorem heldIntS_law (A : Option Addr) (n c : Nat) (k0 : Int) (w : World) (hx : Ints w A n (marks k0 n)) (hn : n ≤ 1099511627776) (h0 : 0 ≤ k0) (h1 : k0 ≤ 4611686018427387904) :
    Calls Try.prog 46 #[.slice A n c, .int .i64 k0] w fun e w' => e = .returned (.int .i64 (k0 + n)) ∧ Below w.heap.size w w' :=
  (heldIntS_any A n c k0 w hx hn h0 h1).mono fun _ _ ⟨h1, h2⟩ => ⟨h1, h2 ▸ Below.refl _ _⟩
end

section
open Go.RowKit

theorem ownBlock_row (A : Option Addr) (n c : Nat) : (Value.slice A n c).ownBlock = rowOf A := by cases A <;> rfl

set_option maxRecDepth 100000 in
theorem run_app_nil {w : World} {B : Nat} {A : Option Addr} {n c : Nat} {xs : List Int} (ty : TypeId) (c' : Nat) (hown : Own w B A n c xs) :
    (Builtin.append_ #[24, 24] ty #[.slice A n c, .slice none 0 c']).run Try.prog w = .ok (.slice A n c) w := by
  obtain ⟨i0, hi, _⟩ := info_parts Try.infoInt
  rcases hown.2 with ⟨h1, h2⟩ | ⟨g, cap, cur, h1, _, _, hnc, _⟩
  · simp only [Value.slice.injEq] at h1
    obtain ⟨rfl, rfl, rfl⟩ := h1
    simp [Builtin.append_, run_underlying Try.underlying24, sizeOf, typeInfo, hi, Builtin.lenOf, Builtin.firstCells]
  · simp only [Value.slice.injEq, true_and] at h1
    obtain ⟨rfl, rfl⟩ := h1
    simp [Builtin.append_, run_underlying Try.underlying24, sizeOf, typeInfo, hi, Builtin.lenOf, Builtin.firstCells, hnc, storeCells]

theorem oneCells (zs : List Int) : ∀ u ∈ zs.map (Value.int .i64), u.oneCell' = true := ints_oneCell _ _

set_option maxRecDepth 100000 in
theorem wp_app {w : World} {ops : Array Oper} {rest : List Oper} {o : Oper} {a : Act} {Q : Exit → Act → World → Prop} (hgd : o.guard = none) (s x : Operand)
    (ho : o.op = .call { callee := .builtin .append, args := #[s, x], argTypes := #[24, 24] })
    (B : Nat) (A : Option Addr) (n c : Nat) (xs : List Int) (hs : a.eval s = .slice A n c) (hown : Own w B A n c xs)
    (A' : Option Addr) (m c' : Nat) (ys : List Int) (hx : a.eval x = .slice A' m c') (hr : Ints w A' m ys) (hsz : n + m ≤ 1099511627776) (hB : B ≤ w.heap.size)
    (h : ∀ A2 c2 w', Own w' B A2 (n + m) c2 (xs ++ ys) → w.grownBy w' (rowOf A) → (rowOf A2 = rowOf A ∨ rowOf A2 = some w.heap.size) → wpList Try.prog ops Q rest (a.put o.dst (.slice A2 (n + m) c2)) w') :
    wpList Try.prog ops Q (o :: rest) a w := by
  obtain ⟨i0, hi, hz0, hz1, hz2⟩ := info_parts Try.infoInt
  rcases A' with _ | ad
  · have hm : m = 0 := by
      rcases Nat.eq_zero_or_pos m with h0 | h0
      · exact h0
      · obtain ⟨_, e, _⟩ := hr.2 h0; cases e
    subst hm
    obtain rfl : ys = [] := List.eq_nil_of_length_eq_zero hr.1
    have hrun := run_app_nil o.type c' hown
    refine wpList_plain hgd fun K hK => ?_
    unfold Oper.wp
    simp [execOp, ho, resolve, invoke, builtin, hs, hx, hrun, Result.andThen]
    exact hK _ _ (h A c w (by simpa using hown) (World.grownBy.refl _ _) (.inl rfl))
  · refine wpList_append_own_at w hgd s x 24 ho B 3 i0 _ 1 8 Try.underlying24 hi hz0 hz1 hz2 rfl (by omega) (.slice A n c) n (xs.map (Value.int .i64)) hs hown ad m c' (ys.map (Value.int .i64)) hx (by simp [hr.1]) ?_ (oneCells ys)
      (by unfold maxLen; omega) (by omega) hB ?_
    · intro j u hu
      have hl := hr.1
      rw [List.getElem?_map, Option.map_eq_some_iff] at hu
      obtain ⟨y, hy, rfl⟩ := hu
      have hj : j < m := by
        rcases Nat.lt_or_ge j ys.length with h1 | h1
        · omega
        · rw [List.getElem?_eq_none h1] at hy; cases hy
      obtain ⟨ad', e, hc⟩ := hr.at_ hj
      injection e with e
      subst e
      rw [hc, hy]
      rfl
    · intro v' w' h1 h2 h3 h4
      rw [ownBlock_row] at h2 h4
      rw [← List.map_append] at h1
      have hv : ∃ A2 c2, v' = .slice A2 (n + m) c2 := by
        rcases h1.2 with ⟨hv, h0⟩ | ⟨g, cap, cur, hv, _⟩
        · rw [h0]; exact ⟨none, 0, hv⟩
        · exact ⟨_, cap, hv⟩
      obtain ⟨A2, c2, rfl⟩ := hv
      rw [ownBlock_row] at h4
      exact h A2 c2 w' h1 h2 h4

theorem ints_one {w : World} {g : Nat} {v : Int} (hg : g = w.heap.size) : Ints (w.alloc (.cells #[.int .i64 v] 3)) (some ⟨g, 0, none⟩) 1 [v] := by
  refine ⟨rfl, fun _ => ⟨_, rfl, fun j hj => ?_⟩⟩
  obtain rfl : j = 0 := by omega
  subst hg
  exact cell_one_new w (.int .i64 v) 3 0 _ rfl

/-- 'append(s, v)' of one int: v lies in a new block of its own. -/
theorem wp_app1 {wr : World} {v : Int} {ops : Array Oper} {rest : List Oper} {o : Oper} {a : Act} {Q : Exit → Act → World → Prop} (hgd : o.guard = none) (s x : Operand)
    (ho : o.op = .call { callee := .builtin .append, args := #[s, x], argTypes := #[24, 24] })
    (B : Nat) (A : Option Addr) (n c : Nat) (xs : List Int) (hs : a.eval s = .slice A n c) (hown : Own wr B A n c xs)
    (g : Nat) (hx : a.eval x = .slice (some ⟨g, 0, none⟩) 1 1) (hg : g = wr.heap.size) (hsz : n + 1 ≤ 1099511627776) (hB : B ≤ wr.heap.size)
    (h : ∀ A2 c2 w', Own w' B A2 (n + 1) c2 (xs ++ [v]) → wr.grownBy w' (rowOf A) → (rowOf A2 = rowOf A ∨ rowOf A2 = some (wr.heap.size + 1)) → wpList Try.prog ops Q rest (a.put o.dst (.slice A2 (n + 1) c2)) w') :
    wpList Try.prog ops Q (o :: rest) a (wr.alloc (.cells #[.int .i64 v] 3)) :=
  wp_app hgd s x ho B A n c xs hs (hown.below ((Below.refl _ _).alloc (Nat.le_refl _) _)) (some ⟨g, 0, none⟩) 1 1 [v] hx (ints_one hg) hsz (by simp; omega) fun A2 c2 w' h1 h2 h3 =>
    h A2 c2 w' h1 (grownBy_trans (World.grownBy_alloc wr _ _) h2) (by simpa using h3)
end

section
open Go.RowKit

theorem box_new (w : World) (cs : Array Value) (T : TypeId) : (w.alloc (.cells cs T)).heap[w.heap.size]? = some (.cells cs T (0, 0)) := heap_alloc_new w _
theorem box_cell {w : World} {g : Nat} {cs : Array Value} {T : TypeId} (h : w.heap[g]? = some (.cells cs T (0, 0))) (i : Nat) (v : Value) (hv : cs[i]? = some v) : w.cell? ⟨g, i, none⟩ = some v := by
  rw [cell_of_row w g i cs T (0, 0) h]; exact hv
theorem box_free {w : World} {g : Nat} {cs : Array Value} {T : TypeId} (h : w.heap[g]? = some (.cells cs T (0, 0))) (i : Nat) : w.frozen? ⟨g, i, none⟩ = false := by
  simp [World.frozen?, h]
theorem box_set {w : World} {g : Nat} {cs : Array Value} {T : TypeId} (h : w.heap[g]? = some (.cells cs T (0, 0))) (i : Nat) (v : Value) : (w.setCell ⟨g, i, none⟩ v).heap[g]? = some (.cells (cs.setIfInBounds i v) T (0, 0)) := by
  simp [World.setCell, Array.getElem?_modify, h]
theorem box_below {w w' : World} {g : Nat} {o : Obj} (h : w.heap[g]? = some o) (hb : Below w.heap.size w w') : w'.heap[g]? = some o := (hb.block g (lt_of_block h)).trans h
theorem store_two {w : World} {g : Nat} {T : TypeId} {p q : Value} (h : w.heap[g]? = some (.cells #[p, q] T (0, 0))) (u v : Value) : ((w.setCell ⟨g, 0, none⟩ u).setCell ⟨g, 1, none⟩ v).heap[g]? = some (.cells #[u, v] T (0, 0)) :=
  box_set (box_set h 0 u) 1 v
theorem below_two {w0 w : World} {B g : Nat} {u v : Value} (h : Below B w0 w) (hg : B ≤ g) : Below B w0 ((w.setCell ⟨g, 0, none⟩ u).setCell ⟨g, 1, none⟩ v) := (h.setCell (by exact hg) _).setCell (by exact hg) _

/-- Two boxes at a function's start. -/
theorem box_two (w : World) (cs ds : Array Value) (T U : TypeId) :
    Below w.heap.size w ((w.alloc (.cells cs T)).alloc (.cells ds U)) ∧ ((w.alloc (.cells cs T)).alloc (.cells ds U)).heap[w.heap.size]? = some (.cells cs T (0, 0)) ∧
    ((w.alloc (.cells cs T)).alloc (.cells ds U)).heap[w.heap.size + 1]? = some (.cells ds U (0, 0)) := by
  refine ⟨((Below.refl _ _).alloc (Nat.le_refl _) _).alloc (by simp) _, (Below.heap_alloc _ _ _ (by simp)).trans (heap_alloc_new w _), ?_⟩
  have h := heap_alloc_new (w.alloc (.cells cs T)) (.cells ds U)
  simpa using h
theorem box_chg {w w' : World} {lo hi g : Nat} {o : Obj} (h : w.heap[g]? = some o) (hc : Chg lo hi w w') (hg : g < lo ∨ hi ≤ g) : w'.heap[g]? = some o := (hc.block g (lt_of_block h) hg).trans h
end
end Go.Proofs.Ytcjmapdeopffcaa
