/- Several small texts in one: Chg, Sub, Recs, RecTo, Mark. -/
import Derived.Test.YtcjmapdeopffcaaZa
import Derived.Test.YtcjmapdeopffcaaYw
import Derived.Test.YtcjmapdeopffcaaZb
import Derived.Laws.BytesArg
namespace Go.Proofs.Ytcjmapdeopffcaa

section
open Go.RowKit

theorem Chg.set {lo hi g i : Nat} {a b : World} {v : Value} (h : Chg lo hi a b) (h1 : lo ≤ g) (h2 : g < hi) : Chg lo hi a (b.setCell ⟨g, i, none⟩ v) :=
  h.trans ⟨rfl, rfl, rfl, by simp, fun k _ ho => Below.heap_setCell b ⟨g, i, none⟩ v k (fun e => by simp at e; omega)⟩
theorem Chg.drew {lo hi : Nat} {a b : World} (h : Chg lo hi a b) : Chg lo hi a b.drew := ⟨h.os, h.tape, h.output, h.size, h.block⟩
theorem Chg.alloc {lo hi : Nat} {a b : World} (h : Chg lo hi a b) (o : Obj) : Chg lo hi a (b.alloc o) := h.trans (Chg.of_below (below_new b o))
theorem Chg.then_ {lo hi : Nat} {a b c : World} (h : Chg lo hi a b) (k : Below b.heap.size b c) : Chg lo hi a c := h.trans (Chg.of_below k)
end

section
open Go.RowKit

/-- The cells pos, pos + st, .. of ys hold rows of ints, each of the call's own, from the k-th on, no two in one block. -/
structure Sub (w : World) (lo hi : Nat) (ys : List Value) (st pos : Nat) (L : Nat → List Int) (k n : Nat) : Prop where
  row : ∀ j, k ≤ j → j < n → ∃ V c, ys[j * st + pos]? = some (.slice V (L j).length c) ∧ OwnI w lo hi V (L j).length c (L j)
  apart : ∀ i j g, k ≤ i → i < j → j < n → (ys[i * st + pos]?).bind Value.ownBlock = some g → (ys[j * st + pos]?).bind Value.ownBlock ≠ some g

def upd (L : Nat → List Int) (i : Nat) (l : List Int) : Nat → List Int := fun j => if j = i then l else L j
theorem upd_at (L : Nat → List Int) (i : Nat) (l : List Int) : upd L i l i = l := by simp [upd]
theorem upd_ne (L : Nat → List Int) {i j : Nat} (l : List Int) (h : j ≠ i) : upd L i l j = L j := by simp [upd, h]

section
variable {w w' : World} {lo hi : Nat} {ys : List Value} {st pos : Nat} {L : Nat → List Int} {k n : Nat}
theorem Sub.keep (h : Sub w lo hi ys st pos L k n) (hk : ∀ g, lo ≤ g → g < hi → g < w.heap.size → w'.heap[g]? = w.heap[g]?) : Sub w' lo hi ys st pos L k n :=
  ⟨fun j h1 h2 => by
    obtain ⟨V, c, e, ho⟩ := h.row j h1 h2
    refine ⟨V, c, e, ⟨ho.own.keep fun g hA hl => ?_, ho.top, ho.small⟩⟩
    have := ho.row g (by rw [hA]; rfl)
    exact hk g this.1 this.2 hl, h.apart⟩
theorem Sub.below (h : Sub w lo hi ys st pos L k n) (hb : Below w.heap.size w w') : Sub w' lo hi ys st pos L k n := h.keep fun g _ _ hg => hb.block g hg
theorem Sub.chg {lo' hi' : Nat} (h : Sub w lo hi ys st pos L k n) (hc : Chg lo' hi' w w') (hd : hi ≤ lo' ∨ hi' ≤ lo) : Sub w' lo hi ys st pos L k n := h.keep fun g h1 h2 hg => hc.block g hg (by omega)
theorem Sub.fit {lo' : Nat} (h : Sub w lo hi ys st pos L k n) (hl : lo' ≤ lo) : Sub w lo' w.heap.size ys st pos L k n :=
  ⟨fun j h1 h2 => by
    obtain ⟨V, c, e, ho⟩ := h.row j h1 h2
    exact ⟨V, c, e, ho.fit hl⟩, h.apart⟩
theorem Sub.less {k' : Nat} (h : Sub w lo hi ys st pos L k n) (hk : k ≤ k') : Sub w lo hi ys st pos L k' n :=
  ⟨fun j h1 h2 => h.row j (by omega) h2, fun i j g h1 h2 h3 => h.apart i j g (by omega) h2 h3⟩
theorem Sub.fn {L' : Nat → List Int} (h : Sub w lo hi ys st pos L k n) (he : ∀ j, k ≤ j → j < n → L' j = L j) : Sub w lo hi ys st pos L' k n :=
  ⟨fun j h1 h2 => by rw [he j h1 h2]; exact h.row j h1 h2, h.apart⟩
/-- The outer row's cells turn elsewhere. -/
theorem Sub.cells {zs : List Value} (h : Sub w lo hi ys st pos L k n) (he : ∀ j, k ≤ j → j < n → zs[j * st + pos]? = ys[j * st + pos]?) : Sub w lo hi zs st pos L k n :=
  ⟨fun j h1 h2 => by rw [he j h1 h2]; exact h.row j h1 h2, fun i j g h1 h2 h3 => by rw [he i h1 (by omega), he j (by omega) h3]; exact h.apart i j g h1 h2 h3⟩
/-- A store into the outer row's block, of another type. -/
theorem Sub.far {g i : Nat} {v : Value} {T : TypeId} {cs : Array Value} (h : Sub w lo hi ys st pos L k n) (hg : w.heap[g]? = some (.cells cs T (0, 0))) (hT : T ≠ 3) : Sub (w.setCell ⟨g, i, none⟩ v) lo hi ys st pos L k n :=
  ⟨fun j h1 h2 => by
    obtain ⟨V, c, e, ho⟩ := h.row j h1 h2
    refine ⟨V, c, e, ⟨ho.own.keep fun b hA hl => ?_, ho.top, ho.small⟩⟩
    refine Below.heap_setCell w ⟨g, i, none⟩ v b (fun e' => ?_)
    subst e'
    rcases ho.own.2 with ⟨h0, _⟩ | ⟨b', cap, cur, hv, _, hh, _⟩
    · rw [hA] at h0; cases h0
    · rw [hA] at hv
      injection hv with hv
      injection hv with hv
      injection hv with hv
      subst hv
      rw [hg] at hh
      injection hh with hh
      injection hh with _ hh
      exact hT hh, h.apart⟩
theorem ownBlock_rowOf (A : Option Addr) (n c : Nat) : (Value.slice A n c).ownBlock = rowOf A := by cases A <;> rfl
/-- The i-th row has become another: of the same block, or of a new one. -/
theorem Sub.set {i c : Nat} {V V2 : Option Addr} {m c2 : Nat} {l : List Int} (h : Sub w lo hi ys st pos L 0 n) (hpos : pos < st) (hi : i < n) (hl : ys.length = n * st) (hV : ys[i * st + pos]? = some (.slice V m c))
    (hg : w.grownBy w' (rowOf V)) (ho : Own w' lo V2 l.length c2 l) (hs : l.length ≤ 1099511627776) (hb : rowOf V2 = none ∨ rowOf V2 = rowOf V ∨ ∃ g, rowOf V2 = some g ∧ w.heap.size ≤ g) :
    Sub w' lo w'.heap.size (ys.set (i * st + pos) (.slice V2 l.length c2)) st pos (upd L i l) 0 n := by
  have hin : i * st + pos < ys.length := by
    rw [hl]
    have : (i + 1) * st ≤ n * st := Nat.mul_le_mul_right _ (by omega)
    rw [Nat.add_mul] at this
    omega
  have hother : ∀ j, j ≠ i → j * st + pos ≠ i * st + pos := fun j hj e => hj (Nat.eq_of_mul_eq_mul_right (by omega : 0 < st) (by omega))
  have hfar : ∀ j, j < n → j ≠ i → ∀ g, (ys[j * st + pos]?).bind Value.ownBlock = some g → rowOf V ≠ some g := fun j hj hne g hgj hVg => by
    have hVi : (ys[i * st + pos]?).bind Value.ownBlock = some g := by rw [hV]; simpa [ownBlock_rowOf] using hVg
    rcases Nat.lt_or_ge j i with h1 | h1
    · exact h.apart j i g (by omega) h1 hi hgj hVi
    · exact h.apart i j g (by omega) (by omega) hj hVi hgj
  have hold : ∀ j, j < n → ∀ g, (ys[j * st + pos]?).bind Value.ownBlock = some g → g < w.heap.size := fun j hj g hgj => by
    obtain ⟨V3, c3, e3, ho3⟩ := h.row j (by omega) hj
    rw [e3] at hgj
    exact (ho3.own.row_ge g (by simpa [ownBlock_rowOf] using hgj)).2
  have hset : ∀ j, j ≠ i → (ys.set (i * st + pos) (.slice V2 l.length c2))[j * st + pos]? = ys[j * st + pos]? := fun j hj => by
    rw [List.getElem?_set_ne (fun e => hother j hj e.symm)]
  have hself : (ys.set (i * st + pos) (.slice V2 l.length c2))[i * st + pos]? = some (.slice V2 l.length c2) := List.getElem?_set_self hin
  refine ⟨fun j h1 h2 => ?_, fun a b g h1 h2 h3 ha hbb => ?_⟩
  · by_cases hj : j = i
    · subst hj
      rw [hself, upd_at]
      exact ⟨V2, c2, rfl, OwnI.of_own ho hs⟩
    · rw [hset j hj, upd_ne _ _ hj]
      obtain ⟨V3, c3, e3, ho3⟩ := h.row j h1 h2
      refine ⟨V3, c3, e3, OwnI.of_own (ho3.own.far hg (fun g hA e => ?_)) ho3.small⟩
      exact hfar j h2 hj g (by rw [e3, hA]; rfl) e
  · by_cases haI : a = i
    · subst haI
      rw [hself] at ha
      rw [hset b (by omega)] at hbb
      have ha' : rowOf V2 = some g := by simpa [ownBlock_rowOf] using ha
      rcases hb with e | e | ⟨g', e, hge⟩
      · rw [e] at ha'; cases ha'
      · exact hfar b h3 (by omega) g hbb (by rw [← e]; exact ha')
      · have := hold b h3 g hbb
        rw [e] at ha'; injection ha' with ha'; omega
    · rw [hset a haI] at ha
      by_cases hbI : b = i
      · subst hbI
        rw [hself] at hbb
        have hb' : rowOf V2 = some g := by simpa [ownBlock_rowOf] using hbb
        rcases hb with e | e | ⟨g', e, hge⟩
        · rw [e] at hb'; cases hb'
        · exact hfar a (by omega) haI g ha (by rw [← e]; exact hb')
        · have := hold a (by omega) g ha
          rw [e] at hb'; injection hb' with hb'; omega
      · rw [hset b hbI] at hbb
        exact h.apart a b g h1 h2 h3 ha hbb
/-- The k-th row is marked: those behind it stay. -/
theorem Sub.mark {V : Option Addr} {m c : Nat} (h : Sub w lo hi ys st pos L k n) (_hk : k < n) (hV : ys[k * st + pos]? = some (.slice V m c)) (hg : w.grownBy w' (rowOf V)) : Sub w' lo hi ys st pos L (k + 1) n :=
  ⟨fun j h1 h2 => by
    obtain ⟨V3, c3, e3, ho3⟩ := h.row j (by omega) h2
    refine ⟨V3, c3, e3, ⟨ho3.own.far hg (fun g hA e => ?_), ho3.top, ho3.small⟩⟩
    exact h.apart k j g (Nat.le_refl _) (by omega) h2 (by rw [hV]; simpa [ownBlock_rowOf] using e) (by rw [e3, hA]; rfl),
   fun i j g h1 h2 h3 => h.apart i j g (by omega) h2 h3⟩
theorem Sub.nils (hn : ∀ j, j < n → ys[j * st + pos]? = some (.slice none 0 0)) (hL : ∀ j, j < n → L j = []) : Sub w lo hi ys st pos L 0 n :=
  ⟨fun j _ h2 => ⟨none, 0, by rw [hL j h2]; exact hn j h2, by rw [hL j h2]; exact ⟨Own.nil_, (fun k hk => by cases hk), by simp⟩⟩,
   fun i j g _ h2 h3 ha => by rw [hn i (by omega)] at ha; cases ha⟩
end
end

section
open Go.RowKit

structure RecD where
  area : Int
  house : Int
  vals : List Int
def rec0 : RecD := ⟨0, 0, []⟩
def rX (rs : List RecD) (j : Nat) : RecD := rs[j]?.getD rec0
def rA (rs : List RecD) (j : Nat) : Int := (rX rs j).area
def rH (rs : List RecD) (j : Nat) : Int := (rX rs j).house
def rV (rs : List RecD) (j : Nat) : List Int := (rX rs j).vals

/-- A slice of records that reads as a list. -/
def RecsR (w : World) (A : Option Addr) (n : Nat) (rs : List RecD) : Prop :=
  rs.length = n ∧ (0 < n → ∃ ad, A = some ad ∧ ∀ j, j < n → w.cell? (ad.add (j * 3)) = some (.int .i64 (rA rs j)) ∧ w.cell? ⟨(ad.add (j * 3)).block, (ad.add (j * 3)).off + 1, none⟩ = some (.int .i64 (rH rs j)) ∧
    ∃ V m c, w.cell? ⟨(ad.add (j * 3)).block, (ad.add (j * 3)).off + 2, none⟩ = some (.slice V m c) ∧ Ints w V m (rV rs j))
section
variable {w w' : World} {A : Option Addr} {n : Nat} {rs : List RecD}
theorem RecsR.at_ {k : Nat} (h : RecsR w A n rs) (hk : k < n) : ∃ ad, A = some ad ∧ w.cell? (ad.add (k * 3)) = some (.int .i64 (rA rs k)) ∧ w.cell? ⟨(ad.add (k * 3)).block, (ad.add (k * 3)).off + 1, none⟩ = some (.int .i64 (rH rs k)) ∧
    ∃ V m c, w.cell? ⟨(ad.add (k * 3)).block, (ad.add (k * 3)).off + 2, none⟩ = some (.slice V m c) ∧ Ints w V m (rV rs k) := by
  obtain ⟨ad, e, hc⟩ := h.2 (by omega)
  exact ⟨ad, e, hc k hk⟩
theorem RecsR.nil_ : RecsR w A 0 [] := ⟨rfl, fun h => absurd h (by omega)⟩
theorem RecsR.below (h : RecsR w A n rs) (hb : Below w.heap.size w w') : RecsR w' A n rs :=
  ⟨h.1, fun hn => by
    obtain ⟨ad, e, hc⟩ := h.2 hn
    refine ⟨ad, e, fun j hj => ?_⟩
    obtain ⟨c0, c1, V, m, c, c2, hi⟩ := hc j hj
    exact ⟨(hb.cell (block_lt_of_cell c0)).trans c0, (hb.cell (block_lt_of_cell c1)).trans c1, V, m, c, (hb.cell (block_lt_of_cell c2)).trans c2, hi.below hb⟩⟩
theorem RecsR.drewN (h : RecsR w A n rs) (q : Nat) : RecsR (w.drewN q) A n rs := h
theorem RecsR.drew (h : RecsR w A n rs) : RecsR w.drew A n rs := h
end
end

section
open Go.RowKit

theorem box_three (w : World) (cs ds es : Array Value) (T U X : TypeId) :
    Below w.heap.size w (((w.alloc (.cells cs T)).alloc (.cells ds U)).alloc (.cells es X)) ∧ (((w.alloc (.cells cs T)).alloc (.cells ds U)).alloc (.cells es X)).heap[w.heap.size]? = some (.cells cs T (0, 0)) ∧
    (((w.alloc (.cells cs T)).alloc (.cells ds U)).alloc (.cells es X)).heap[w.heap.size + 1]? = some (.cells ds U (0, 0)) ∧ (((w.alloc (.cells cs T)).alloc (.cells ds U)).alloc (.cells es X)).heap[w.heap.size + 1 + 1]? = some (.cells es X (0, 0)) ∧
    (((w.alloc (.cells cs T)).alloc (.cells ds U)).alloc (.cells es X)).heap.size = w.heap.size + 1 + 1 + 1 := by
  obtain ⟨h0, h1, h2⟩ := box_two w cs ds T U
  have h3 := heap_alloc_new ((w.alloc (.cells cs T)).alloc (.cells ds U)) (.cells es X)
  exact ⟨h0.alloc h0.size _, (Below.heap_alloc _ _ _ (by simp; omega)).trans h1, (Below.heap_alloc _ _ _ (by simp)).trans h2, by simpa using h3, by simp⟩

section
variable {w w' : World} {A : Option Addr} {n c lo hi : Nat} {rs : List RecD}
theorem row_keep {T : TypeId} {sz : Nat} {ys : List Value} (h : w.ownsRow lo T sz (.slice A n c) n ys) (hk : ∀ g, lo ≤ g → rowOf A = some g → g < w.heap.size → w'.heap[g]? = w.heap[g]?) : w'.ownsRow lo T sz (.slice A n c) n ys := by
  refine ⟨h.1, ?_⟩
  rcases h.2 with h0 | ⟨g, cap, cur, hv, hb, hg, hr⟩
  · exact .inl h0
  · refine .inr ⟨g, cap, cur, hv, hb, ?_, hr⟩
    injection hv with hA
    rw [hk g hb (by rw [hA]; rfl) (lt_of_block hg)]
    exact hg

end


/-- The cells ys agree with the records' numbers below k; the rows from k on are nil. -/
def AgreeR (rs : List RecD) (ys : List Value) (n k : Nat) : Prop := ys.length = n * 3 ∧ (∀ t, t < k → ys[t * 3]? = some (.int .i64 (rA rs t)) ∧ ys[t * 3 + 1]? = some (.int .i64 (rH rs t))) ∧ ∀ t, k ≤ t → t < n → ys[t * 3 + 2]? = some (.slice none 0 0)
def upTo (L : Nat → List Int) (k : Nat) : Nat → List Int := fun j => if j < k then L j else []
theorem upTo_step (L : Nat → List Int) (k : Nat) : upd (upTo L k) k (L k) = upTo L (k + 1) := by
  funext j
  unfold upd upTo
  by_cases h : j = k
  · subst h; simp
  · by_cases h2 : j < k
    · simp [h, h2, Nat.lt_succ_of_lt h2]
    · have : ¬ j < k + 1 := by omega
      simp [h, h2, this]
theorem AgreeR.step {rs : List RecD} {ys : List Value} {n k : Nat} (h : AgreeR rs ys n k) (hk : k < n) (v : Value) : AgreeR rs (((ys.set (k * 3) (.int .i64 (rA rs k))).set (k * 3 + 1) (.int .i64 (rH rs k))).set (k * 3 + 2) v) n (k + 1) := by
  obtain ⟨h1, h2, h3⟩ := h
  refine ⟨by simpa using h1, fun t ht => ?_, fun t ht hn => ?_⟩
  · rw [List.getElem?_set_ne (by omega), List.getElem?_set_ne (i := k * 3 + 2) (by omega)]
    by_cases e : t = k
    · subst e
      rw [List.getElem?_set_ne (by omega), List.getElem?_set_self (by omega), List.getElem?_set_self (by simp; omega)]
      exact ⟨rfl, rfl⟩
    · rw [List.getElem?_set_ne (by omega), List.getElem?_set_ne (by omega), List.getElem?_set_ne (by omega), List.getElem?_set_ne (by omega)]
      exact h2 t (by omega)
  · rw [List.getElem?_set_ne (by omega), List.getElem?_set_ne (by omega), List.getElem?_set_ne (by omega)]
    exact h3 t (by omega) hn
theorem made_at (z : Array Value) (N i : Nat) (h : i < N) : (madeCells z N).toList[i]? = some z[i % z.size]! := by
  simp [madeCells, h]
theorem madeRecs (n : Nat) : ∀ t, t < n → (madeCells (Value.agg #[.int .i64 0, .int .i64 0, .slice none 0 0]).cells (n * 3)).toList[t * 3 + 2]? = some (.slice none 0 0) := fun t ht => by
  rw [made_at _ _ _ (by omega)]
  have : (t * 3 + 2) % 3 = 2 := by omega
  simp [Value.cells, this]

theorem Sub.farRow {w : World} {lo hi lo2 g i st pos k n m c sz : Nat} {ys zs : List Value} {L : Nat → List Int} {v : Value} {T : TypeId} (h : Sub w lo hi ys st pos L k n) (ho : w.ownsRow lo2 T sz (.slice (some ⟨g, 0, none⟩) m c) m zs) (hT : T ≠ 3) :
    Sub (w.setCell ⟨g, i, none⟩ v) lo hi ys st pos L k n := by
  rcases ho.2 with ⟨h0, _⟩ | ⟨g', cap, cur, hv, _, hg, _⟩
  · cases h0
  · injection hv with hv
    injection hv with hv
    injection hv with hv
    subst hv
    exact h.far hg hT
theorem row_three {w : World} {lo n c g k : Nat} {T : TypeId} {ys : List Value} (h : w.ownsRow lo T 3 (.slice (some ⟨g, 0, none⟩) n c) n ys) (hk : k < n) :
    (∃ u, w.cell? ⟨g, k * 3, none⟩ = some u) ∧ (∃ u, w.cell? ⟨g, k * 3 + 1, none⟩ = some u) ∧ (∃ u, w.cell? ⟨g, k * 3 + 2, none⟩ = some u) ∧ w.frozen? ⟨g, k * 3, none⟩ = false ∧ w.frozen? ⟨g, k * 3 + 1, none⟩ = false ∧ w.frozen? ⟨g, k * 3 + 2, none⟩ = false := by
  have hl := h.1
  refine ⟨⟨ys[k * 3]'(by omega), ?_⟩, ⟨ys[k * 3 + 1]'(by omega), ?_⟩, ⟨ys[k * 3 + 2]'(by omega), ?_⟩, World.ownsRow.frozenAt h _, World.ownsRow.frozenAt h _, World.ownsRow.frozenAt h _⟩
  · rw [World.ownsRow.cellAt h _ (by omega), List.getElem?_eq_getElem]
  · rw [World.ownsRow.cellAt h _ (by omega), List.getElem?_eq_getElem]
  · rw [World.ownsRow.cellAt h _ (by omega), List.getElem?_eq_getElem]
theorem grown_none {w w' : World} (h : Below w.heap.size w w') (r : Option Nat) : w.grownBy w' r := ⟨h.os, h.tape, h.output, h.size, fun k hk _ => h.block k hk⟩
end

section
open Go.RowKit

def SomeText (w : World) (e : Ending) (w' : World) : Prop := ∃ s : ByteArray, e = .returned (.string s) ∧ Below w.heap.size w w'

theorem one_text (x : Int) : (strOfNums [x]).size = 1 := rfl

theorem row_head {w : World} {lo n c sz : Nat} {T : TypeId} {A : Option Addr} {ys : List Value} (h : w.ownsRow lo T sz (.slice A n c) n ys) (hn : 0 < n) : ∃ g, A = some ⟨g, 0, none⟩ ∧ lo ≤ g ∧ g < w.heap.size := by
  rcases h.2 with ⟨_, h0⟩ | ⟨g, cap, cur, hv, hb, hg, _⟩
  · omega
  · injection hv with hA
    exact ⟨g, hA, hb, lt_of_block hg⟩
theorem row_ne {w : World} {B lo n c sz m d g : Nat} {T : TypeId} {V : Option Addr} {xs : List Int} {ys : List Value} (ho : Own w B V m d xs) (h : w.ownsRow lo T sz (.slice (some ⟨g, 0, none⟩) n c) n ys) (hT : T ≠ 3) : rowOf V ≠ some g := by
  intro e
  rcases h.2 with ⟨h0, _⟩ | ⟨g', cap, cur, hv, _, hg, _⟩
  · cases h0
  · injection hv with hv
    injection hv with hv
    injection hv with hv
    subst hv
    rcases ho.2 with ⟨h0, _⟩ | ⟨b', cap', cur', hv', _, hh, _⟩
    · injection h0 with h0; subst h0; cases e
    · injection hv' with hv'
      subst hv'
      simp only [rowOf, Option.some.injEq] at e
      subst e
      rw [hg] at hh
      injection hh with hh
      injection hh with _ hh
      exact hT hh
end
end Go.Proofs.Ytcjmapdeopffcaa
