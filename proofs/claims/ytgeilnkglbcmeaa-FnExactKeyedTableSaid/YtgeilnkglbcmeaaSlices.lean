/- Slices of ints: what they read as, rows of the call's own, and the contracts of the laws' helpers on them. -/
import Derived.Test.YtgeilnkglbcmeaaRows
import Derived.WalkKit
import Derived.WalkSpells
import Derived.WalkLawsBesides
import Derived.WalkSmall
import Derived.BigQuiet
import Derived.Deep.QuietTactic
import Derived.Lib.Hide
namespace Go.Proofs.Ytgeilnkglbcmeaa
open Go.RowKit

theorem ret_int {k : IntKind} {a b : Int} (h : a = b) : Ending.returned (.int k a) = .returned (.int k b) := by rw [h]
theorem val_int {k : IntKind} {a b : Int} (h : a = b) : Value.int k a = .int k b := by rw [h]
theorem ret_bool {a b : Bool} (h : a = b) : Ending.returned (.bool a) = .returned (.bool b) := by rw [h]

/-- A slice of ints that reads as a list. -/
def Ints (w : World) (A : Option Addr) (n : Nat) (xs : List Int) : Prop :=
  xs.length = n ∧ (0 < n → ∃ ad, A = some ad ∧ ∀ j, j < n → w.cell? (ad.add j) = some (.int .i64 (xs[j]?.getD 0)))

theorem block_lt_of_cell {w : World} {a : Addr} {v : Value} (h : w.cell? a = some v) : a.block < w.heap.size := by
  rcases Nat.lt_or_ge a.block w.heap.size with hlt | hge
  · exact hlt
  · unfold World.cell? at h
    rw [Array.getElem?_eq_none hge] at h
    cases h

section
variable {w w' : World} {A : Option Addr} {n c B B' : Nat} {xs : List Int}

theorem Ints.at_ {k : Nat} (h : Ints w A n xs) (hk : k < n) : ∃ ad, A = some ad ∧ w.cell? (ad.add k) = some (.int .i64 (xs[k]?.getD 0)) := by
  obtain ⟨ad, e, hc⟩ := h.2 (by omega)
  exact ⟨ad, e, hc k hk⟩
theorem Ints.nil_ : Ints w A 0 [] := ⟨rfl, fun h => absurd h (by omega)⟩
theorem Ints.of_row {ad : Addr} {len cap : Nat} {zs : List Int} (hz : cap ≤ zs.length) (hl : len ≤ cap) (hc : ∀ i, i < zs.length → w.cell? (ad.add i) = some (.int .i64 (zs.getD i 0))) : Ints w (some ad) len (zs.take len) := by
  refine ⟨by rw [List.length_take]; omega, fun _ => ⟨ad, rfl, fun j hj => ?_⟩⟩
  rw [hc j (by omega), List.getElem?_take, if_pos hj]
  rfl
theorem Ints.below (h : Ints w A n xs) (hb : Below w.heap.size w w') : Ints w' A n xs :=
  ⟨h.1, fun hn => by
    obtain ⟨ad, e, hc⟩ := h.2 hn
    exact ⟨ad, e, fun j hj => (hb.cell (block_lt_of_cell (hc j hj))).trans (hc j hj)⟩⟩
theorem Ints.drewN (h : Ints w A n xs) (q : Nat) : Ints (w.drewN q) A n xs := h
theorem Ints.alloc (h : Ints w A n xs) (o : Obj) : Ints (w.alloc o) A n xs := h.below ((Below.refl _ _).alloc (Nat.le_refl _) o)

/-- A row of the call's own, numbers from B on, that holds a list. -/
def Own (w : World) (B : Nat) (A : Option Addr) (n c : Nat) (xs : List Int) : Prop :=
  w.ownsRow B 3 1 (.slice A n c) n (xs.map (Value.int .i64))

theorem Own.len (h : Own w B A n c xs) : xs.length = n := by
  have := h.1
  simpa using this
theorem Own.nil_ : Own w B none 0 0 [] := World.ownsRow_nil _ _ _ _
theorem Own.head (h : Own w B A n c xs) (hn : 0 < n) : ∃ g, A = some ⟨g, 0, none⟩ ∧ B ≤ g ∧ g < w.heap.size := by
  rcases h.2 with ⟨_, h0⟩ | ⟨g, cap, cur, hv, hb, hg, _⟩
  · omega
  · injection hv with hA
    exact ⟨g, hA, hb, lt_of_block hg⟩
theorem Own.at_ {k : Nat} (h : Own w B A n c xs) (hk : k < n) : ∃ g, A = some ⟨g, 0, none⟩ ∧ B ≤ g ∧ g < w.heap.size ∧
    w.cell? ⟨g, k, none⟩ = some (.int .i64 (xs[k]?.getD 0)) ∧ w.frozen? ⟨g, k, none⟩ = false := by
  obtain ⟨g, rfl, hb, hlt⟩ := h.head (by omega)
  refine ⟨g, rfl, hb, hlt, ?_, World.ownsRow.frozenAt h k⟩
  rw [World.ownsRow.cellAt h k (by omega)]
  have := h.len
  rw [List.getElem?_map, List.getElem?_eq_getElem (by omega)]
  rfl
theorem Own.ints (h : Own w B A n c xs) : Ints w A n xs := by
  refine ⟨h.len, fun hn => ?_⟩
  obtain ⟨g, rfl, _⟩ := h.head hn
  refine ⟨_, rfl, fun j hj => ?_⟩
  obtain ⟨g', e, _, _, hc, _⟩ := h.at_ hj
  simp only [Option.some.injEq, Addr.mk.injEq, and_true] at e
  subst e
  have : (⟨g, 0, none⟩ : Addr).add j = ⟨g, j, none⟩ := by
    unfold Addr.add
    split
    · rename_i h0; rw [h0]
    · simp
  rw [this]
  exact hc
theorem Own.set {g k : Nat} {x : Int} (h : Own w B (some ⟨g, 0, none⟩) n c xs) : Own (w.setCell ⟨g, k, none⟩ (.int .i64 x)) B (some ⟨g, 0, none⟩) n c (xs.set k x) := by
  have := (World.ownsRow.stored h k (.int .i64 x)).1
  unfold Own
  rw [List.map_set]
  exact this
theorem Own.mono (h : Own w B A n c xs) (hB : B' ≤ B) : Own w B' A n c xs := by
  refine ⟨h.1, ?_⟩
  rcases h.2 with h0 | ⟨g, cap, cur, hv, hb, hr⟩
  · exact .inl h0
  · exact .inr ⟨g, cap, cur, hv, by omega, hr⟩
theorem Own.keep (h : Own w B A n c xs) (hk : ∀ g, A = some ⟨g, 0, none⟩ → g < w.heap.size → w'.heap[g]? = w.heap[g]?) : Own w' B A n c xs := by
  refine ⟨h.1, ?_⟩
  rcases h.2 with h0 | ⟨g, cap, cur, hv, hb, hg, hr⟩
  · exact .inl h0
  · refine .inr ⟨g, cap, cur, hv, hb, ?_, hr⟩
    injection hv with hA
    rw [hk g hA (lt_of_block hg)]
    exact hg
theorem Own.below (h : Own w B A n c xs) (hb : Below w.heap.size w w') : Own w' B A n c xs := h.keep fun g _ hg => hb.block g hg
theorem Own.drewN (h : Own w B A n c xs) (q : Nat) : Own (w.drewN q) B A n c xs := h
/-- The block of a row. -/
def rowOf : Option Addr → Option Nat
  | some a => some a.block
  | none => none
theorem Own.far {A' : Option Addr} (h : Own w B A n c xs) (hg : w.grownBy w' (rowOf A')) (hne : ∀ g, A = some ⟨g, 0, none⟩ → rowOf A' ≠ some g) : Own w' B A n c xs :=
  h.keep fun g hA hlt => hg.block g hlt (fun e => hne g hA e.symm)
end

section
variable {w w' : World} {A : Option Addr} {n c B B' : Nat} {xs : List Int}
theorem Own.row_ge (h : Own w B A n c xs) : ∀ k, rowOf A = some k → B ≤ k ∧ k < w.heap.size := by
  intro k hk
  rcases h.2 with ⟨hv, _⟩ | ⟨g, cap, cur, hv, hb, hg, _⟩
  · simp only [Value.slice.injEq] at hv
    obtain ⟨rfl, _⟩ := hv
    cases hk
  · simp only [Value.slice.injEq] at hv
    obtain ⟨rfl, _⟩ := hv
    simp only [rowOf, Option.some.injEq] at hk
    subst hk
    exact ⟨hb, lt_of_block hg⟩
theorem Own.size_lt {g : Nat} (h : Own w B (some ⟨g, 0, none⟩) n c xs) : g < w.heap.size := (h.row_ge g rfl).2
/-- A row from B on is kept by a write to a row below B. -/
theorem Own.far_lt {A' : Option Addr} (h : Own w B A n c xs) (hg : w.grownBy w' (rowOf A')) (hlt : ∀ k, rowOf A' = some k → k < B) : Own w' B A n c xs :=
  h.keep fun g hA hgl => hg.block g hgl (fun e => by
    have h1 := (h.row_ge g (by rw [hA]; rfl)).1
    have h2 := hlt g e.symm
    omega)
/-- A row at a known block is kept by a write to a row from beyond it on. -/
theorem Own.far_gt {A' : Option Addr} {g0 : Nat} (h : Own w B (some ⟨g0, 0, none⟩) n c xs) (hg : w.grownBy w' (rowOf A')) (hlt : ∀ k, rowOf A' = some k → g0 < k) : Own w' B (some ⟨g0, 0, none⟩) n c xs :=
  h.keep fun g hA hgl => hg.block g hgl (fun e => by
    simp only [Option.some.injEq, Addr.mk.injEq, and_true] at hA
    have h2 := hlt g e.symm
    omega)
theorem below_write {w0 : World} (hb : Below B w0 w) (hg : w.grownBy w' (rowOf A)) (hB : B ≤ w.heap.size) (hr : ∀ k, rowOf A = some k → B ≤ k) : Below B w0 w' := hb.grown hg hB hr
theorem below_app {w0 wr w2 : World} {o : Obj} (hb : Below B w0 wr) (hown : Own wr B A n c xs) (hB : B ≤ wr.heap.size) (hg : (wr.alloc o).grownBy w2 (rowOf A)) : Below B w0 w2 :=
  (hb.alloc hB o).grown hg (by simp; omega) (fun k hk => (hown.row_ge k hk).1)
end

/-- The list of f 0, f 1, .. -/
def tabl (n : Nat) (f : Nat → Int) : List Int := (List.range n).map f
theorem tabl_len (n : Nat) (f : Nat → Int) : (tabl n f).length = n := by simp [tabl]
theorem tabl_at {n i : Nat} {f : Nat → Int} (h : i < n) : (tabl n f)[i]?.getD 0 = f i := by simp [tabl, h]
theorem tabl_succ (n : Nat) (f : Nat → Int) : tabl (n + 1) f = tabl n f ++ [f n] := by simp [tabl, List.range_succ]
theorem tabl_self (xs : List Int) : tabl xs.length (fun i => xs[i]?.getD 0) = xs := by
  apply List.ext_getElem?
  intro i
  rcases Nat.lt_or_ge i xs.length with h | h
  · simp [tabl, h]
  · rw [List.getElem?_eq_none h, List.getElem?_eq_none (by rw [tabl_len]; exact h)]
/-- The first index below n of which p says no, or n. -/
def firstNo (p : Nat → Bool) (n : Nat) : Nat := ((List.range n).find? (fun i => !p i)).getD n
theorem firstNo_at {p : Nat → Bool} {n k : Nat} (h : ∀ j, j < k → p j = true) (hk : k < n) (hp : p k = false) : firstNo p n = k := by
  unfold firstNo
  have : (List.range n).find? (fun i => !p i) = some k := by
    rw [List.find?_range_eq_some]
    exact ⟨by simp [hp], by simpa using hk, fun j hj => by simp [h j hj]⟩
  rw [this]; rfl
theorem firstNo_end {p : Nat → Bool} {n : Nat} (h : ∀ j, j < n → p j = true) : firstNo p n = n := by
  unfold firstNo
  have : (List.range n).find? (fun i => !p i) = none := by
    rw [List.find?_eq_none]
    intro x hx
    simp [h x (by simpa using hx)]
  rw [this]; rfl

theorem grownBy_trans {a b d : World} {r : Option Nat} (h : a.grownBy b r) (k : b.grownBy d r) : a.grownBy d r :=
  ⟨k.os.trans h.os, k.tape.trans h.tape, k.output.trans h.output, Nat.le_trans h.size k.size, fun i hi hne => (k.block i (Nat.lt_of_lt_of_le hi h.size) hne).trans (h.block i hi hne)⟩
theorem grownBy_set {a b : World} {g k : Nat} {v : Value} (h : a.grownBy b (some g)) : a.grownBy (b.setCell ⟨g, k, none⟩ v) (some g) :=
  grownBy_trans h ⟨rfl, rfl, rfl, by simp, fun i _ hne => Below.heap_setCell b ⟨g, k, none⟩ v i (fun e => hne (by rw [e]))⟩

theorem Try.infoInt : (Try.prog.info? 3).map (fun i => (i.zero, i.size, i.bytes)) = some (some (.int .i64 0), 1, 8) := by kernel_rfl

theorem map_replicate0 (n : Nat) : (madeCells (Value.int .i64 0).cells (n * 1)).toList = (List.replicate n (0 : Int)).map (Value.int .i64) := by
  rw [Nat.mul_one, List.map_replicate]
  exact toList_madeCells_one _ _

theorem fill_set {xs ys : List Int} {n k : Nat} (hl : xs.length = n) (hy : ys.length = n) (hk : k < n) (h : ∀ t, t < k → ys[t]? = xs[t]?) :
    (ys.set k (xs[k]?.getD 0)).length = n ∧ ∀ t, t < k + 1 → (ys.set k (xs[k]?.getD 0))[t]? = xs[t]? := by
  refine ⟨by simpa using hy, fun t ht => ?_⟩
  rcases Nat.lt_or_ge t k with h1 | h1
  · rw [List.getElem?_set_ne (by omega)]; exact h t h1
  · obtain rfl : t = k := by omega
    rw [List.getElem?_set_self (by omega), List.getElem?_eq_getElem (by omega)]
    rfl
theorem fill_end {xs ys : List Int} {n k : Nat} (hl : xs.length = n) (hy : ys.length = n) (hk : n ≤ k) (h : ∀ t, t < k → ys[t]? = xs[t]?) : ys = xs := by
  apply List.ext_getElem?
  intro t
  rcases Nat.lt_or_ge t n with h1 | h1
  · exact h t (by omega)
  · rw [List.getElem?_eq_none (by omega), List.getElem?_eq_none (by omega)]

/-- ys agrees with xs below k. -/
def Agree (xs ys : List Int) (n k : Nat) : Prop := ys.length = n ∧ ∀ t, t < k → ys[t]? = xs[t]?
theorem Agree.start (n : Nat) (xs : List Int) : Agree xs (List.replicate n 0) n 0 := ⟨by simp, fun t ht => absurd ht (by omega)⟩
theorem Agree.step {xs ys : List Int} {n k : Nat} (h : Agree xs ys n k) (hl : xs.length = n) (hk : k < n) : Agree xs (ys.set k (xs[k]?.getD 0)) n (k + 1) :=
  fill_set hl h.1 hk h.2
theorem Agree.fin {xs ys : List Int} {n k : Nat} (h : Agree xs ys n k) (hl : xs.length = n) (hk : n ≤ k) : ys = xs := fill_end hl h.1 hk h.2

set_option maxHeartbeats 400000 in
theorem toIntS_any (A : Option Addr) (n c : Nat) (xs : List Int) (w : World) (hx : Ints w A n xs) (hn : n ≤ 1099511627776) :
    Calls Try.prog 13 #[.slice A n c] w fun e w' => e = .returned (.slice (some ⟨w.heap.size, 0, none⟩) n n) ∧ Own w' w.heap.size (some ⟨w.heap.size, 0, none⟩) n n xs ∧ Below w.heap.size w w' := by
  obtain ⟨i0, hi, hz0, hz1, hz2⟩ := info_parts Try.infoInt
  go_enter Try.func13, Try.ntmps13
  go_wp2_with (at_make; refine wpList_make_full _ rfl _ _ 27 rfl w.heap.size 3 i0 _ 1 Try.underlying27 hi hz0 hz1 .i64 .i64 _ _ n rfl rfl rfl rfl (by rw [hz2]; omega) (by unfold maxLen; omega) (Nat.le_refl _) ?_; intro w1 hown hg)
  rw [map_replicate0] at hown
  have hO : Own w1 w.heap.size (some ⟨w.heap.size, 0, none⟩) n n (List.replicate n 0) := hown
  have hb1 : Below w.heap.size w w1 := (Below.refl _ _).grown hg (Nat.le_refl _) (by simp)
  clear hown hg hi hz0 hz1 hz2
  go_loopw [4] (fun i wr => ∃ (k : Nat) (ys : List Int), k ≤ n ∧ i = .int .i64 k ∧ Agree xs ys n k ∧ Own wr w.heap.size (some ⟨w.heap.size, 0, none⟩) n n ys ∧ Below w.heap.size w wr) (fun i _ => n - (intOf i).toNat)
  case atStart => exact ⟨0, _, Nat.zero_le _, rfl, Agree.start _ _, hO, hb1⟩
  case round =>
    clear hO hb1
    obtain ⟨k, ys, hk, rfl, hag, hown, hbw⟩ := hrel
    by_cases hlt : k < n
    · obtain ⟨ad, rfl, hc⟩ := (hx.below hbw).at_ hlt
      obtain ⟨g, hge, _, hgl, hcg, hfg⟩ := hown.at_ hlt
      simp only [Option.some.injEq, Addr.mk.injEq, and_true] at hge
      subst hge
      have R1 := Lib.hid (hag.step hx.1 hlt)
      have R2 := Lib.hid (hown.set (k := k) (x := xs[k]?.getD 0))
      have R3 := Lib.hid (hbw.setCell (p := ⟨w.heap.size, k, none⟩) (Nat.le_refl _) (.int .i64 (xs[k]?.getD 0)))
      clear hx hag hown hbw hgl
      obtain ⟨x, hxe⟩ : ∃ x, xs[k]?.getD 0 = x := ⟨_, rfl⟩
      rw [hxe] at hc R1 R2 R3
      clear hxe
      go_wp2
      go_roundw
      case rel => exact ⟨k + 1, _, by omega, by go_num, R1.out, R2.out, R3.out⟩
      case measure => simp [intOf]; omega
    · have R := hag.fin hx.1 (by omega)
      subst R
      clear hag hx
      go_wp2
      go_ret
      exact ⟨rfl, hown, hbw⟩

set_option maxHeartbeats 400000 in
theorem eqIntS_true (A A' : Option Addr) (n c c' : Nat) (xs : List Int) (w : World) (hx : Ints w A n xs) (hy : Ints w A' n xs) (hn : n ≤ 1099511627776) :
    Calls Try.prog 15 #[.slice A n c, .slice A' n c'] w fun e w' => e = .returned (.bool true) ∧ ∃ q, w' = w.drewN q := by
  go_enter Try.func15, Try.ntmps15
  go_wp2
  go_loopw [5] (fun i wr => ∃ (k q : Nat), k ≤ n ∧ i = .int .i64 k ∧ wr = w.drewN q) (fun i _ => n - (intOf i).toNat)
  case atStart => exact ⟨0, 0, Nat.zero_le _, rfl, rfl⟩
  case round =>
    obtain ⟨k, q, hk, rfl, rfl⟩ := hrel
    by_cases hlt : k < n
    · obtain ⟨ad, rfl, hc⟩ := hx.at_ hlt
      obtain ⟨ad', rfl, hc'⟩ := hy.at_ hlt
      clear hx hy
      obtain ⟨x, hxe⟩ : ∃ x, xs[k]?.getD 0 = x := ⟨_, rfl⟩
      rw [hxe] at hc hc'
      clear hxe
      go_wp2
      go_quiet (fail)
      go_wp2
      go_roundw
      case rel => exact ⟨k + 1, _, by omega, by go_num, rfl⟩
      case measure => simp [intOf]; omega
    · go_wp2
      go_ret
      exact ⟨rfl, q, rfl⟩
/-- The numbers k, k + 1, .. that a mark leaves. -/
def marks (k : Int) (n : Nat) : List Int := (List.range n).map fun (i : Nat) => k + (i : Int)
theorem marks_len (k : Int) (n : Nat) : (marks k n).length = n := by simp [marks]
theorem marks_at {k : Int} {n i : Nat} (h : i < n) : (marks k n)[i]?.getD 0 = k + i := by
  simp [marks, h]

set_option maxHeartbeats 400000 in
theorem markIntS_any (A : Option Addr) (B n c : Nat) (k0 : Int) (xs : List Int) (w : World) (hx : Own w B A n c xs) (hn : n ≤ 1099511627776) (h0 : 0 ≤ k0) (h1 : k0 ≤ 4611686018427387904) :
    Calls Try.prog 22 #[.slice A n c, .int .i64 k0] w fun e w' => e = .returned (.int .i64 (k0 + n)) ∧ Own w' B A n c (marks k0 n) ∧ w.grownBy w' (rowOf A) := by
  have hml := Lib.hid (marks_len k0 n)
  have hma : Hid (∀ i, i < n → (marks k0 n)[i]?.getD 0 = k0 + i) := Lib.hid fun i h => marks_at h
  generalize marks k0 n = zs at *
  go_enter Try.func22, Try.ntmps22
  go_wp2
  go_loopw [1, 5] (fun a i wr => ∃ (k : Nat) (ys : List Int), k ≤ n ∧ i = .int .i64 k ∧ a = .int .i64 (k0 + k) ∧ Agree zs ys n k ∧ Own wr B A n c ys ∧ w.grownBy wr (rowOf A)) (fun _ i _ => n - (intOf i).toNat)
  case atStart => exact ⟨0, xs, Nat.zero_le _, rfl, by go_num, ⟨hx.len, fun t ht => absurd ht (by omega)⟩, hx, World.grownBy.refl _ _⟩
  case round =>
    clear hx
    obtain ⟨k, ys, hk, rfl, rfl, hag, hown, hbw⟩ := hrel
    by_cases hlt : k < n
    · obtain ⟨g, hge, _, hgl, hcg, hfg⟩ := hown.at_ hlt
      subst hge
      have R1 := Lib.hid (hag.step hml.out hlt)
      have R2 := Lib.hid (hown.set (k := k) (x := zs[k]?.getD 0))
      have R3 := Lib.hid (grownBy_set (k := k) (v := .int .i64 (zs[k]?.getD 0)) hbw)
      rw [hma.out k hlt] at R1 R2 R3
      clear hag hown hbw hgl
      go_wp2
      go_roundw
      case rel => exact ⟨k + 1, _, by omega, by go_num, by go_num, R1.out, R2.out, R3.out⟩
      case measure => simp [intOf]; omega
    · have R := hag.fin hml.out (by omega)
      subst R
      clear hag
      obtain rfl : n = k := by omega
      go_wp2
      go_ret
      exact ⟨rfl, hown, hbw⟩

set_option maxHeartbeats 400000 in
theorem heldIntS_any (A : Option Addr) (n c : Nat) (k0 : Int) (w : World) (hx : Ints w A n (marks k0 n)) (hn : n ≤ 1099511627776) (h0 : 0 ≤ k0) (h1 : k0 ≤ 4611686018427387904) :
    Calls Try.prog 23 #[.slice A n c, .int .i64 k0] w fun e w' => e = .returned (.int .i64 (k0 + n)) ∧ w = w' := by
  have hma : Hid (∀ i, i < n → (marks k0 n)[i]?.getD 0 = k0 + i) := Lib.hid fun i h => marks_at h
  generalize marks k0 n = zs at *
  go_enter Try.func23, Try.ntmps23
  go_wp2
  go_loop [1, 5] (fun a i => ∃ (k : Nat), k ≤ n ∧ i = .int .i64 k ∧ a = .int .i64 (k0 + k)) (fun _ i => n - (intOf i).toNat)
  case atStart => exact ⟨0, Nat.zero_le _, rfl, by go_num⟩
  case round =>
    obtain ⟨k, hk, rfl, rfl⟩ := hrel
    by_cases hlt : k < n
    · obtain ⟨ad, rfl, hc⟩ := hx.at_ hlt
      rw [hma.out k hlt] at hc
      clear hx
      go_wp2
      go_round
      case rel => exact ⟨k + 1, by omega, by go_num, by go_num⟩
      case measure => simp [intOf]; omega
    · clear hx
      obtain rfl : n = k := by omega
      go_wp2
      go_ret
      exact ⟨rfl, rfl⟩
end Go.Proofs.Ytgeilnkglbcmeaa
