/- Rows of ints that hang in the cells of an outer row: kept, built and marked. -/
import Derived.Test.YtgeilnkglbcmeaaChg
namespace Go.Proofs.Ytgeilnkglbcmeaa
open Go.RowKit

/-- The cells pos, pos + st, .. of ys hold rows of ints, each of the call's own, from the k-th on, no two in one block. -/
structure Sub (w : World) (lo hi : Nat) (ys : List Value) (st pos : Nat) (L : Nat → List Int) (k n : Nat) : Prop where
  row : ∀ j, k ≤ j → j < n → ∃ V c, ys[j * st + pos]? = some (.slice V (L j).length c) ∧ OwnI w lo hi V (L j).length c (L j)
  apart : ∀ i j g, k ≤ i → i < j → j < n → (ys[i * st + pos]?).bind Value.ownBlock = some g → (ys[j * st + pos]?).bind Value.ownBlock ≠ some g

def upd (L : Nat → List Int) (i : Nat) (l : List Int) : Nat → List Int := fun j => if j = i then l else L j
theorem upd_at (L : Nat → List Int) (i : Nat) (l : List Int) : upd L i l i = l := by simp [upd]
theorem upd_ne (L : Nat → List Int) {i j : Nat} (l : List Int) (h : j ≠ i) : upd L i l j = L j := by simp [upd, h]

section
variable {w w' : World} {lo hi : Nat} {ys : List Value} {st pos : Nat} {L : Nat → List Int} {k n : Nat}
theorem Sub.keep (h : Sub w lo hi ys st pos L k n) (hk : ∀ g, lo ≤ g → g < hi → g < w.heap.size → w'.heap[g]? = w.heap[g]?) : Sub w' lo hi ys st pos L k n :=
  ⟨fun j h1 h2 => by
    obtain ⟨V, c, e, ho⟩ := h.row j h1 h2
    refine ⟨V, c, e, ⟨ho.own.keep fun g hA hl => ?_, ho.top, ho.small⟩⟩
    have := ho.row g (by rw [hA]; rfl)
    exact hk g this.1 this.2 hl, h.apart⟩
theorem Sub.below (h : Sub w lo hi ys st pos L k n) (hb : Below w.heap.size w w') : Sub w' lo hi ys st pos L k n := h.keep fun g _ _ hg => hb.block g hg
theorem Sub.chg {lo' hi' : Nat} (h : Sub w lo hi ys st pos L k n) (hc : Chg lo' hi' w w') (hd : hi ≤ lo' ∨ hi' ≤ lo) : Sub w' lo hi ys st pos L k n := h.keep fun g h1 h2 hg => hc.block g hg (by omega)
theorem Sub.fit {lo' : Nat} (h : Sub w lo hi ys st pos L k n) (hl : lo' ≤ lo) : Sub w lo' w.heap.size ys st pos L k n :=
  ⟨fun j h1 h2 => by
    obtain ⟨V, c, e, ho⟩ := h.row j h1 h2
    exact ⟨V, c, e, ho.fit hl⟩, h.apart⟩
theorem Sub.less {k' : Nat} (h : Sub w lo hi ys st pos L k n) (hk : k ≤ k') : Sub w lo hi ys st pos L k' n :=
  ⟨fun j h1 h2 => h.row j (by omega) h2, fun i j g h1 h2 h3 => h.apart i j g (by omega) h2 h3⟩
theorem Sub.fn {L' : Nat → List Int} (h : Sub w lo hi ys st pos L k n) (he : ∀ j, k ≤ j → j < n → L' j = L j) : Sub w lo hi ys st pos L' k n :=
  ⟨fun j h1 h2 => by rw [he j h1 h2]; exact h.row j h1 h2, h.apart⟩
/-- The outer row's cells turn elsewhere. -/
theorem Sub.cells {zs : List Value} (h : Sub w lo hi ys st pos L k n) (he : ∀ j, k ≤ j → j < n → zs[j * st + pos]? = ys[j * st + pos]?) : Sub w lo hi zs st pos L k n :=
  ⟨fun j h1 h2 => by rw [he j h1 h2]; exact h.row j h1 h2, fun i j g h1 h2 h3 => by rw [he i h1 (by omega), he j (by omega) h3]; exact h.apart i j g h1 h2 h3⟩
/-- A store into the outer row's block, of another type. -/
theorem Sub.far {g i : Nat} {v : Value} {T : TypeId} {cs : Array Value} (h : Sub w lo hi ys st pos L k n) (hg : w.heap[g]? = some (.cells cs T (0, 0))) (hT : T ≠ 3) : Sub (w.setCell ⟨g, i, none⟩ v) lo hi ys st pos L k n :=
  ⟨fun j h1 h2 => by
    obtain ⟨V, c, e, ho⟩ := h.row j h1 h2
    refine ⟨V, c, e, ⟨ho.own.keep fun b hA hl => ?_, ho.top, ho.small⟩⟩
    refine Below.heap_setCell w ⟨g, i, none⟩ v b (fun e' => ?_)
    subst e'
    rcases ho.own.2 with ⟨h0, _⟩ | ⟨b', cap, cur, hv, _, hh, _⟩
    · rw [hA] at h0; cases h0
    · rw [hA] at hv
      injection hv with hv
      injection hv with hv
      injection hv with hv
      subst hv
      rw [hg] at hh
      injection hh with hh
      injection hh with _ hh
      exact hT hh, h.apart⟩
theorem ownBlock_rowOf (A : Option Addr) (n c : Nat) : (Value.slice A n c).ownBlock = rowOf A := by cases A <;> rfl
/-- The i-th row has become another: of the same block, or of a new one. -/
theorem Sub.set {i c : Nat} {V V2 : Option Addr} {m c2 : Nat} {l : List Int} (h : Sub w lo hi ys st pos L 0 n) (hpos : pos < st) (hi : i < n) (hl : ys.length = n * st) (hV : ys[i * st + pos]? = some (.slice V m c))
    (hg : w.grownBy w' (rowOf V)) (ho : Own w' lo V2 l.length c2 l) (hs : l.length ≤ 1099511627776) (hb : rowOf V2 = none ∨ rowOf V2 = rowOf V ∨ ∃ g, rowOf V2 = some g ∧ w.heap.size ≤ g) :
    Sub w' lo w'.heap.size (ys.set (i * st + pos) (.slice V2 l.length c2)) st pos (upd L i l) 0 n := by
  have hin : i * st + pos < ys.length := by
    rw [hl]
    have : (i + 1) * st ≤ n * st := Nat.mul_le_mul_right _ (by omega)
    rw [Nat.add_mul] at this
    omega
  have hother : ∀ j, j ≠ i → j * st + pos ≠ i * st + pos := fun j hj e => hj (Nat.eq_of_mul_eq_mul_right (by omega : 0 < st) (by omega))
  have hfar : ∀ j, j < n → j ≠ i → ∀ g, (ys[j * st + pos]?).bind Value.ownBlock = some g → rowOf V ≠ some g := fun j hj hne g hgj hVg => by
    have hVi : (ys[i * st + pos]?).bind Value.ownBlock = some g := by rw [hV]; simpa [ownBlock_rowOf] using hVg
    rcases Nat.lt_or_ge j i with h1 | h1
    · exact h.apart j i g (by omega) h1 hi hgj hVi
    · exact h.apart i j g (by omega) (by omega) hj hVi hgj
  have hold : ∀ j, j < n → ∀ g, (ys[j * st + pos]?).bind Value.ownBlock = some g → g < w.heap.size := fun j hj g hgj => by
    obtain ⟨V3, c3, e3, ho3⟩ := h.row j (by omega) hj
    rw [e3] at hgj
    exact (ho3.own.row_ge g (by simpa [ownBlock_rowOf] using hgj)).2
  have hset : ∀ j, j ≠ i → (ys.set (i * st + pos) (.slice V2 l.length c2))[j * st + pos]? = ys[j * st + pos]? := fun j hj => by
    rw [List.getElem?_set_ne (fun e => hother j hj e.symm)]
  have hself : (ys.set (i * st + pos) (.slice V2 l.length c2))[i * st + pos]? = some (.slice V2 l.length c2) := List.getElem?_set_self hin
  refine ⟨fun j h1 h2 => ?_, fun a b g h1 h2 h3 ha hbb => ?_⟩
  · by_cases hj : j = i
    · subst hj
      rw [hself, upd_at]
      exact ⟨V2, c2, rfl, OwnI.of_own ho hs⟩
    · rw [hset j hj, upd_ne _ _ hj]
      obtain ⟨V3, c3, e3, ho3⟩ := h.row j h1 h2
      refine ⟨V3, c3, e3, OwnI.of_own (ho3.own.far hg (fun g hA e => ?_)) ho3.small⟩
      exact hfar j h2 hj g (by rw [e3, hA]; rfl) e
  · by_cases haI : a = i
    · subst haI
      rw [hself] at ha
      rw [hset b (by omega)] at hbb
      have ha' : rowOf V2 = some g := by simpa [ownBlock_rowOf] using ha
      rcases hb with e | e | ⟨g', e, hge⟩
      · rw [e] at ha'; cases ha'
      · exact hfar b h3 (by omega) g hbb (by rw [← e]; exact ha')
      · have := hold b h3 g hbb
        rw [e] at ha'; injection ha' with ha'; omega
    · rw [hset a haI] at ha
      by_cases hbI : b = i
      · subst hbI
        rw [hself] at hbb
        have hb' : rowOf V2 = some g := by simpa [ownBlock_rowOf] using hbb
        rcases hb with e | e | ⟨g', e, hge⟩
        · rw [e] at hb'; cases hb'
        · exact hfar a (by omega) haI g ha (by rw [← e]; exact hb')
        · have := hold a (by omega) g ha
          rw [e] at hb'; injection hb' with hb'; omega
      · rw [hset b hbI] at hbb
        exact h.apart a b g h1 h2 h3 ha hbb
/-- The k-th row is marked: those behind it stay. -/
theorem Sub.mark {V : Option Addr} {m c : Nat} (h : Sub w lo hi ys st pos L k n) (_hk : k < n) (hV : ys[k * st + pos]? = some (.slice V m c)) (hg : w.grownBy w' (rowOf V)) : Sub w' lo hi ys st pos L (k + 1) n :=
  ⟨fun j h1 h2 => by
    obtain ⟨V3, c3, e3, ho3⟩ := h.row j (by omega) h2
    refine ⟨V3, c3, e3, ⟨ho3.own.far hg (fun g hA e => ?_), ho3.top, ho3.small⟩⟩
    exact h.apart k j g (Nat.le_refl _) (by omega) h2 (by rw [hV]; simpa [ownBlock_rowOf] using e) (by rw [e3, hA]; rfl),
   fun i j g h1 h2 h3 => h.apart i j g (by omega) h2 h3⟩
theorem Sub.nils (hn : ∀ j, j < n → ys[j * st + pos]? = some (.slice none 0 0)) (hL : ∀ j, j < n → L j = []) : Sub w lo hi ys st pos L 0 n :=
  ⟨fun j _ h2 => ⟨none, 0, by rw [hL j h2]; exact hn j h2, by rw [hL j h2]; exact ⟨Own.nil_, (fun k hk => by cases hk), by simp⟩⟩,
   fun i j g _ h2 h3 ha => by rw [hn i (by omega)] at ha; cases ha⟩
end
end Go.Proofs.Ytgeilnkglbcmeaa
