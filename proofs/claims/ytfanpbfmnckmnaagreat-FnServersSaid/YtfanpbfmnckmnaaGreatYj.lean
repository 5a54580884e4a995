/- Several small texts in one: TlA, TlB. -/
import Derived.Test.YtfanpbfmnckmnaaGreatTbsA
import Derived.Test.YtfanpbfmnckmnaaGreatZc
import Derived.Test.YtfanpbfmnckmnaaGreatZg
namespace Go.Proofs.YtfanpbfmnckmnaaGreat

section
open Go.RowKit

/-- A slice of tables that reads as a list. -/
def TabsL (w : World) (A : Option Addr) (n : Nat) (ts : List TabD) : Prop :=
  ts.length = n ∧ (0 < n → ∃ ad, A = some ad ∧ ∀ j, j < n → w.cell? (ad.add (j * 4)) = some (.int .i64 (tX ts j).lv) ∧ w.cell? ⟨(ad.add (j * 4)).block, (ad.add (j * 4)).off + 3, none⟩ = some (.int .i64 (tX ts j).sum) ∧ (∃ V m c, w.cell? ⟨(ad.add (j * 4)).block, (ad.add (j * 4)).off + 1, none⟩ = some (.slice V m c) ∧ Ints w V m (tX ts j).vars) ∧ ∃ U k c, w.cell? ⟨(ad.add (j * 4)).block, (ad.add (j * 4)).off + 2, none⟩ = some (.slice U k c) ∧ Ints w U k (tX ts j).wh)
section
variable {w w' : World} {A : Option Addr} {n : Nat} {ts : List TabD}
theorem TabsL.nil_ : TabsL w A 0 [] := ⟨rfl, fun h => absurd h (by omega)⟩
theorem TabsL.below (h : TabsL w A n ts) (hb : Below w.heap.size w w') : TabsL w' A n ts :=
  ⟨h.1, fun hn => by
    obtain ⟨ad, e, hc⟩ := h.2 hn
    refine ⟨ad, e, fun j hj => ?_⟩
    obtain ⟨c0, c3, ⟨V, m, c, c1, hi⟩, U, k, c', c2, hi2⟩ := hc j hj
    exact ⟨(hb.cell (block_lt_of_cell c0)).trans c0, (hb.cell (block_lt_of_cell c3)).trans c3, ⟨V, m, c, (hb.cell (block_lt_of_cell c1)).trans c1, hi.below hb⟩, U, k, c', (hb.cell (block_lt_of_cell c2)).trans c2, hi2.below hb⟩⟩
theorem TabsL.drew (h : TabsL w A n ts) : TabsL w.drew A n ts := h
end
end

section
open Go.RowKit

/-- The rows of a list of tables. -/
def tV (ts : List TabD) (j : Nat) : List Int := (tX ts j).vars
def tW (ts : List TabD) (j : Nat) : List Int := (tX ts j).wh
/-- No row of variables shares its block with a row of conditions. -/
def CrossT (ys : List Value) (n : Nat) : Prop := ∀ i j g, i < n → j < n → (ys[i * 4 + 1]?).bind Value.ownBlock = some g → (ys[j * 4 + 2]?).bind Value.ownBlock ≠ some g
theorem CrossT.cells {ys zs : List Value} {n : Nat} (h : CrossT ys n) (h1 : ∀ j, j < n → zs[j * 4 + 1]? = ys[j * 4 + 1]?) (h2 : ∀ j, j < n → zs[j * 4 + 2]? = ys[j * 4 + 2]?) : CrossT zs n := fun i j g hi hj h3 => by
  rw [h1 i hi] at h3
  rw [h2 j hj]
  exact h i j g hi hj h3
/-- A list of tables of the call's own, in blocks from lo on and below hi. -/
structure OwnTs (w : World) (lo hi : Nat) (A : Option Addr) (n c : Nat) (ts : List TabD) : Prop where
  len : ts.length = n
  cells : ∃ ys, w.ownsRow lo 56 4 (.slice A n c) n ys ∧ (∀ j, j < n → ys[j * 4]? = some (.int .i64 (tX ts j).lv) ∧ ys[j * 4 + 3]? = some (.int .i64 (tX ts j).sum)) ∧ Sub w lo hi ys 4 1 (tV ts) 0 n ∧ Sub w lo hi ys 4 2 (tW ts) 0 n ∧ CrossT ys n
  top : ∀ k, rowOf A = some k → k < hi
  small : n ≤ 1099511627776
section
variable {w w' : World} {A : Option Addr} {n c lo hi : Nat} {ts : List TabD}
theorem OwnTs.keep (h : OwnTs w lo hi A n c ts) (hk : ∀ g, lo ≤ g → g < hi → g < w.heap.size → w'.heap[g]? = w.heap[g]?) : OwnTs w' lo hi A n c ts := by
  obtain ⟨ys, h1, h2, h3, h4, h5⟩ := h.cells
  exact ⟨h.len, ⟨ys, row_keep h1 fun g hl hA hg => hk g hl (h.top g hA) hg, h2, h3.keep hk, h4.keep hk, h5⟩, h.top, h.small⟩
theorem OwnTs.below (h : OwnTs w lo hi A n c ts) (hb : Below w.heap.size w w') : OwnTs w' lo hi A n c ts := h.keep fun g _ _ hg => hb.block g hg
theorem OwnTs.tabsL (h : OwnTs w lo hi A n c ts) : TabsL w A n ts := by
  refine ⟨h.len, fun hn => ?_⟩
  obtain ⟨ys, ho, hf, hs1, hs2, _⟩ := h.cells
  rcases ho.2 with ⟨_, h0⟩ | ⟨g, cap, cur, hv, _⟩
  · omega
  · injection hv with hA _ hc
    subst hA hc
    have hl := ho.1
    refine ⟨_, rfl, fun j hj => ?_⟩
    rw [addr_add0]
    obtain ⟨V, m, e1, hV⟩ := hs1.row j (by omega) hj
    obtain ⟨U, m2, e2, hU⟩ := hs2.row j (by omega) hj
    have := hf j hj
    exact ⟨(World.ownsRow.cellAt ho (j * 4) (by omega)).trans this.1, (World.ownsRow.cellAt ho (j * 4 + 3) (by omega)).trans this.2, ⟨V, _, m, (World.ownsRow.cellAt ho (j * 4 + 1) (by omega)).trans e1, hV.ints⟩, U, _, m2, (World.ownsRow.cellAt ho (j * 4 + 2) (by omega)).trans e2, hU.ints⟩
end
theorem Tryz.infoTable : (Tryz.prog.info? 56).map (fun i => (i.zero, i.size, i.bytes)) = some (some (.agg #[.int .i64 0, .slice none 0 0, .slice none 0 0, .int .i64 0]), 4, 64) := by kernel_rfl
/-- The cells ys agree with the tables' numbers below k; the rows from k on are nil. -/
def AgreeT (ts : List TabD) (ys : List Value) (n k : Nat) : Prop := ys.length = n * 4 ∧ (∀ t, t < k → ys[t * 4]? = some (.int .i64 (tX ts t).lv) ∧ ys[t * 4 + 3]? = some (.int .i64 (tX ts t).sum)) ∧ ∀ t, k ≤ t → t < n → ys[t * 4 + 1]? = some (.slice none 0 0) ∧ ys[t * 4 + 2]? = some (.slice none 0 0)
def four (ys : List Value) (k : Nat) (a b c d : Value) : List Value := (((ys.set (k * 4) a).set (k * 4 + 1) b).set (k * 4 + 2) c).set (k * 4 + 3) d
theorem four_ne {ys : List Value} {k j p : Nat} {a b c d : Value} (hp : p < 4) (h : j ≠ k) : (four ys k a b c d)[j * 4 + p]? = ys[j * 4 + p]? := by
  unfold four
  rw [List.getElem?_set_ne (by omega), List.getElem?_set_ne (by omega), List.getElem?_set_ne (by omega), List.getElem?_set_ne (by omega)]
theorem four_at {ys : List Value} {k n : Nat} {a b c d : Value} (hl : ys.length = n * 4) (hk : k < n) : (four ys k a b c d)[k * 4]? = some a ∧ (four ys k a b c d)[k * 4 + 1]? = some b ∧ (four ys k a b c d)[k * 4 + 2]? = some c ∧ (four ys k a b c d)[k * 4 + 3]? = some d := by
  unfold four
  refine ⟨?_, ?_, ?_, ?_⟩
  · rw [List.getElem?_set_ne (by omega), List.getElem?_set_ne (by omega), List.getElem?_set_ne (by omega), List.getElem?_set_self (by omega)]
  · rw [List.getElem?_set_ne (by omega), List.getElem?_set_ne (by omega), List.getElem?_set_self (by simp; omega)]
  · rw [List.getElem?_set_ne (by omega), List.getElem?_set_self (by simp; omega)]
  · rw [List.getElem?_set_self (by simp; omega)]
theorem AgreeT.step {ts : List TabD} {ys : List Value} {n k : Nat} (h : AgreeT ts ys n k) (hk : k < n) (v u : Value) : AgreeT ts (four ys k (.int .i64 (tX ts k).lv) v u (.int .i64 (tX ts k).sum)) n (k + 1) := by
  obtain ⟨h1, h2, h3⟩ := h
  refine ⟨by unfold four; simpa using h1, fun t ht => ?_, fun t ht hn => ?_⟩
  · by_cases e : t = k
    · subst e
      obtain ⟨a1, _, _, a4⟩ := four_at (a := .int .i64 (tX ts t).lv) (b := v) (c := u) (d := .int .i64 (tX ts t).sum) h1 hk
      exact ⟨a1, a4⟩
    · have a1 := four_ne (ys := ys) (a := .int .i64 (tX ts k).lv) (b := v) (c := u) (d := .int .i64 (tX ts k).sum) (p := 0) (by omega) e
      have a4 := four_ne (ys := ys) (a := .int .i64 (tX ts k).lv) (b := v) (c := u) (d := .int .i64 (tX ts k).sum) (p := 3) (by omega) e
      exact ⟨a1.trans (h2 t (by omega)).1, a4.trans (h2 t (by omega)).2⟩
  · have e : t ≠ k := by omega
    exact ⟨(four_ne (by omega) e).trans (h3 t (by omega) hn).1, (four_ne (by omega) e).trans (h3 t (by omega) hn).2⟩
theorem row_four {w : World} {lo n c g k : Nat} {T : TypeId} {ys : List Value} (h : w.ownsRow lo T 4 (.slice (some ⟨g, 0, none⟩) n c) n ys) (hk : k < n) :
    (∃ u, w.cell? ⟨g, k * 4, none⟩ = some u) ∧ (∃ u, w.cell? ⟨g, k * 4 + 1, none⟩ = some u) ∧ (∃ u, w.cell? ⟨g, k * 4 + 2, none⟩ = some u) ∧ (∃ u, w.cell? ⟨g, k * 4 + 3, none⟩ = some u) ∧ w.frozen? ⟨g, k * 4, none⟩ = false ∧ w.frozen? ⟨g, k * 4 + 1, none⟩ = false ∧ w.frozen? ⟨g, k * 4 + 2, none⟩ = false ∧ w.frozen? ⟨g, k * 4 + 3, none⟩ = false := by
  have hl := h.1
  refine ⟨⟨ys[k * 4]'(by omega), ?_⟩, ⟨ys[k * 4 + 1]'(by omega), ?_⟩, ⟨ys[k * 4 + 2]'(by omega), ?_⟩, ⟨ys[k * 4 + 3]'(by omega), ?_⟩, World.ownsRow.frozenAt h _, World.ownsRow.frozenAt h _, World.ownsRow.frozenAt h _, World.ownsRow.frozenAt h _⟩
  · rw [World.ownsRow.cellAt h _ (by omega), List.getElem?_eq_getElem]
  · rw [World.ownsRow.cellAt h _ (by omega), List.getElem?_eq_getElem]
  · rw [World.ownsRow.cellAt h _ (by omega), List.getElem?_eq_getElem]
  · rw [World.ownsRow.cellAt h _ (by omega), List.getElem?_eq_getElem]
/-- Four stores into a row of tables. -/
def put4 (w : World) (g k : Nat) (a b c d : Value) : World := (((w.setCell ⟨g, k * 4, none⟩ a).setCell ⟨g, k * 4 + 1, none⟩ b).setCell ⟨g, k * 4 + 2, none⟩ c).setCell ⟨g, k * 4 + 3, none⟩ d
theorem below_put4 {w0 w : World} {B g k : Nat} {a b c d : Value} (h : Below B w0 w) (hg : B ≤ g) : Below B w0 (put4 w g k a b c d) := (((h.setCell (by exact hg) _).setCell (by exact hg) _).setCell (by exact hg) _).setCell (by exact hg) _
theorem newRow {w w2 : World} {lo hi c m : Nat} {V : Option Addr} {l : List Int} (_hb : Below w.heap.size w w2) (hlo : w.heap.size ≤ lo) (hv : OwnI w2 lo hi V m c l) {g : Nat} (h : rowOf V = some g) : w.heap.size ≤ g := Nat.le_trans hlo (hv.own.row_ge g h).1
end
end Go.Proofs.YtfanpbfmnckmnaaGreat
