/- Several small texts in one: AkR, AkC, AkD, AkP. -/
import Derived.Test.YtfanpbfmnckmnaaGreatYs
import Derived.Test.YtfanpbfmnckmnaaGreatYu
import Derived.Test.YtfanpbfmnckmnaaGreatYc
import Derived.Test.YtfanpbfmnckmnaaGreatAppG
import Derived.Deep.RegionLaw
import Derived.Test.YtfanpbfmnckmnaaGreatYk
import Derived.Test.YtfanpbfmnckmnaaGreatYn
namespace Go.Proofs.YtfanpbfmnckmnaaGreat

section
open Go.RowKit

/-- A row of records of the call's own; the rows in them are of its own too, and may be shared. -/
structure DRc (w : World) (lo : Nat) (A : Option Addr) (n c : Nat) (rs : List RecD) : Prop where
  len : rs.length = n
  cells : ∃ ys, w.ownsRow lo 135 3 (.slice A n c) n ys ∧ ∀ j, j < n → ∃ (V : Option Addr) (m cv : Nat), ys[j * 3]? = some (.int .i64 (rA rs j)) ∧ ys[j * 3 + 1]? = some (.int .i64 (rH rs j)) ∧ ys[j * 3 + 2]? = some (.slice V m cv) ∧ OwnI w lo w.heap.size V m cv (rV rs j)
section
variable {w w' : World} {A : Option Addr} {n c lo : Nat} {rs : List RecD}
theorem rX_old {r : RecD} {j : Nat} (h : j < rs.length) : rX (rs ++ [r]) j = rX rs j := by unfold rX; rw [List.getElem?_append_left h]
theorem rX_new {r : RecD} : rX (rs ++ [r]) rs.length = r := by unfold rX; simp
theorem DRc.nil_ {w : World} {lo : Nat} : DRc w lo none 0 0 [] := ⟨rfl, [], World.ownsRow_nil _ _ _ _, fun j hj => absurd hj (by omega)⟩
theorem DRc.below (h : DRc w lo A n c rs) (hb : Below w.heap.size w w') : DRc w' lo A n c rs := by
  obtain ⟨ys, h1, h2⟩ := h.cells
  refine ⟨h.len, ys, row_below h1 hb, fun j hj => ?_⟩
  obtain ⟨V, m, cv, e0, e1, e2, hv⟩ := h2 j hj
  exact ⟨V, m, cv, e0, e1, e2, hv.belT hb⟩
theorem DRc.mono {lo' : Nat} (h : DRc w lo A n c rs) (hl : lo' ≤ lo) : DRc w lo' A n c rs := by
  obtain ⟨ys, h1, h2⟩ := h.cells
  refine ⟨h.len, ys, row_mono h1 hl, fun j hj => ?_⟩
  obtain ⟨V, m, cv, e0, e1, e2, hv⟩ := h2 j hj
  exact ⟨V, m, cv, e0, e1, e2, hv.own.mono hl, hv.top, hv.small⟩
theorem DRc.rows (h : DRc w lo A n c rs) : ∃ ys, w.ownsRow lo 135 3 (.slice A n c) n ys := by
  obtain ⟨ys, h1, _⟩ := h.cells
  exact ⟨ys, h1⟩
theorem DRc.row_ge (h : DRc w lo A n c rs) : ∀ k, rowOf A = some k → lo ≤ k ∧ k < w.heap.size := by
  obtain ⟨ys, ho, _⟩ := h.cells
  exact Go.Proofs.YtfanpbfmnckmnaaGreat.row_ge ho
theorem DRc.ne_box {k : Nat} {cs : Array Value} {T : TypeId} (h : DRc w lo A n c rs) (hk : w.heap[k]? = some (.cells cs T (0, 0))) (hT : T ≠ 135) : rowOf A ≠ some k := by
  obtain ⟨ys, ho, _⟩ := h.cells
  exact row_ne_box ho hk hT
/-- A row of records is kept by stores into a box. -/
theorem DRc.off {b : Nat} {cs : Array Value} {T : TypeId} (h : DRc w lo A n c rs) (hb : w.heap[b]? = some (.cells cs T (0, 0))) (hT : T ≠ 3) (hT2 : T ≠ 135) (hw : ∀ k, k ≠ b → w'.heap[k]? = w.heap[k]?) (hz : w'.heap.size = w.heap.size) : DRc w' lo A n c rs := by
  have hne := h.ne_box hb hT2
  obtain ⟨ys, ho, h2⟩ := h.cells
  refine ⟨h.len, ys, row_keep ho fun k _ hA _ => hw k (fun e => hne (by rw [hA, e])), fun j hj => ?_⟩
  obtain ⟨V, m, cv, e0, e1, e2, hv⟩ := h2 j hj
  exact ⟨V, m, cv, e0, e1, e2, hv.off hb hT hw hz⟩
theorem DRc.recs (h : DRc w lo A n c rs) (hn : n ≤ 1099511627776) : DatR w A n rs := by
  obtain ⟨ys, ho, h2⟩ := h.cells
  refine ⟨⟨h.len, fun hn0 => ?_⟩, fun j hj => ?_, hn⟩
  · obtain ⟨g, rfl, _, _⟩ := row_head ho hn0
    have hl := ho.1
    refine ⟨_, rfl, fun j hj => ?_⟩
    obtain ⟨V, m, cv, e0, e1, e2, hv⟩ := h2 j hj
    rw [addr_add0]
    exact ⟨(World.ownsRow.cellAt ho (j * 3) (by omega)).trans e0, (World.ownsRow.cellAt ho (j * 3 + 1) (by omega)).trans e1, V, m, cv, (World.ownsRow.cellAt ho (j * 3 + 2) (by omega)).trans e2, hv.ints⟩
  · obtain ⟨V, m, cv, e0, e1, e2, hv⟩ := h2 j hj
    rw [hv.own.len]; exact hv.small
theorem row_same {T : TypeId} {sz : Nat} {ys ys' : List Value} (ho : w.ownsRow lo T sz (.slice A n c) n ys') (hy : w.ownsRow lo T sz (.slice A n c) n ys) : ys' = ys := by
  have nil : n = 0 → ys' = ys := fun h1 => by
    have l1 := ho.1; have l2 := hy.1
    rw [h1] at l1 l2
    exact (List.eq_nil_of_length_eq_zero (l1.trans (by simp))).trans (List.eq_nil_of_length_eq_zero (l2.trans (by simp))).symm
  rcases ho.2 with ⟨h0, h1⟩ | ⟨g, cap, cur, e, _, hg1, _, _, _, ht⟩
  · exact nil h1
  · rcases hy.2 with ⟨h0, h1⟩ | ⟨g', cap', cur', e', _, hg1', _, _, _, ht'⟩
    · exact nil h1
    · rw [e] at e'
      simp only [Value.slice.injEq, Option.some.injEq, Addr.mk.injEq, and_true, true_and] at e'
      obtain ⟨rfl, rfl⟩ := e'
      rw [hg1] at hg1'
      injection hg1' with hg1'
      injection hg1' with hg1' _
      rw [← ht, ← ht', hg1']
theorem DRc.snoc {A2 V : Option Addr} {c2 m cv : Nat} {r : RecD} {ys : List Value} (h : DRc w lo A n c rs) (hy : w.ownsRow lo 135 3 (.slice A n c) n ys) (hv : OwnI w lo w.heap.size V m cv r.vals)
    (hg : w.grownBy w' (rowOf A)) (hn : w'.ownsRow lo 135 3 (.slice A2 (n + 1) c2) (n + 1) (ys ++ [.int .i64 r.area, .int .i64 r.house, .slice V m cv])) : DRc w' lo A2 (n + 1) c2 (rs ++ [r]) := by
  obtain ⟨ys', ho, h2⟩ := h.cells
  have hlen := h.len
  obtain rfl : ys' = ys := row_same ho hy
  have hl := hy.1
  have far : ∀ {V : Option Addr} {m cv : Nat} {xs : List Int}, OwnI w lo w.heap.size V m cv xs → OwnI w' lo w'.heap.size V m cv xs := fun {V m cv xs} hv => by
    refine OwnI.of_own (hv.own.far hg fun g hA e => ?_) hv.small
    exact row_ne2 hv.own hy (by decide) (by rw [hA]; rfl) e
  refine ⟨by simp [hlen], _, hn, fun j hj => ?_⟩
  unfold rA rH rV
  rcases Nat.lt_or_ge j n with h3 | h3
  · obtain ⟨V, m, cv, e0, e1, e2, hv⟩ := h2 j h3
    rw [rX_old (by omega)]
    exact ⟨V, m, cv, by rw [List.getElem?_append_left (by omega)]; exact e0, by rw [List.getElem?_append_left (by omega)]; exact e1, by rw [List.getElem?_append_left (by omega)]; exact e2, far hv⟩
  · obtain rfl : j = rs.length := by omega
    rw [rX_new]
    subst hlen
    refine ⟨V, m, cv, ?_, ?_, ?_, far hv⟩
    · rw [List.getElem?_append_right (by omega), hl, Nat.sub_self]; rfl
    · rw [List.getElem?_append_right (by omega), hl]; simp [show rs.length * 3 + 1 - rs.length * 3 = 1 by omega]
    · rw [List.getElem?_append_right (by omega), hl]; simp [show rs.length * 3 + 2 - rs.length * 3 = 2 by omega]
theorem set3 {ys : List Value} {j p : Nat} {a b d : Value} (hl : j * 3 + 3 ≤ ys.length) (hp : p < 3) : (((ys.set (j * 3) a).set (j * 3 + 1) b).set (j * 3 + 2) d)[j * 3 + p]? = some (if p = 0 then a else if p = 1 then b else d) := by
  rcases (by omega : p = 0 ∨ p = 1 ∨ p = 2) with rfl | rfl | rfl
  · rw [List.getElem?_set_ne (by omega), List.getElem?_set_ne (by omega), Nat.add_zero, List.getElem?_set_self (by omega)]; rfl
  · rw [List.getElem?_set_ne (by omega), List.getElem?_set_self (by simp; omega)]; rfl
  · rw [List.getElem?_set_self (by simp; omega)]; rfl
theorem set3n {ys : List Value} {i j p : Nat} {a b d : Value} (hp : p < 3) (h : i ≠ j) : (((ys.set (j * 3) a).set (j * 3 + 1) b).set (j * 3 + 2) d)[i * 3 + p]? = ys[i * 3 + p]? := by
  rw [List.getElem?_set_ne (by omega), List.getElem?_set_ne (by omega), List.getElem?_set_ne (by omega)]
theorem set4 {ys : List Value} {j p : Nat} {a b d e : Value} (hl : j * 4 + 4 ≤ ys.length) (hp : p < 4) : ((((ys.set (j * 4) a).set (j * 4 + 1) b).set (j * 4 + 2) d).set (j * 4 + 3) e)[j * 4 + p]? = some (if p = 0 then a else if p = 1 then b else if p = 2 then d else e) := by
  rcases (by omega : p = 0 ∨ p = 1 ∨ p = 2 ∨ p = 3) with rfl | rfl | rfl | rfl
  · rw [List.getElem?_set_ne (by omega), List.getElem?_set_ne (by omega), List.getElem?_set_ne (by omega), Nat.add_zero, List.getElem?_set_self (by omega)]; rfl
  · rw [List.getElem?_set_ne (by omega), List.getElem?_set_ne (by omega), List.getElem?_set_self (by simp; omega)]; rfl
  · rw [List.getElem?_set_ne (by omega), List.getElem?_set_self (by simp; omega)]; rfl
  · rw [List.getElem?_set_self (by simp; omega)]; rfl
theorem set4n {ys : List Value} {i j p : Nat} {a b d e : Value} (hp : p < 4) (h : i ≠ j) : ((((ys.set (j * 4) a).set (j * 4 + 1) b).set (j * 4 + 2) d).set (j * 4 + 3) e)[i * 4 + p]? = ys[i * 4 + p]? := by
  rw [List.getElem?_set_ne (by omega), List.getElem?_set_ne (by omega), List.getElem?_set_ne (by omega), List.getElem?_set_ne (by omega)]
theorem OwnI.farRow {T : TypeId} {sz g : Nat} {ys : List Value} {V : Option Addr} {m cv : Nat} {xs : List Int} (h : OwnI w lo w.heap.size V m cv xs) (ho : w.ownsRow lo T sz (.slice (some ⟨g, 0, none⟩) n c) n ys) (hT : T ≠ 3) (hg : w.grownBy w' (some g)) : OwnI w' lo w'.heap.size V m cv xs :=
  OwnI.of_own (h.own.far (show w.grownBy w' (rowOf (some ⟨g, 0, none⟩)) from hg) fun q hA e => row_ne2 h.own ho hT (by rw [hA]; rfl) e) h.small
theorem rX_put {r : RecD} {i j : Nat} (hj : j < rs.length) : rX (rs.set j r) i = if i = j then r else rX rs i := by
  unfold rX
  by_cases h : i = j
  · subst h; rw [if_pos rfl, List.getElem?_set_self hj]; rfl
  · rw [if_neg h, List.getElem?_set_ne (fun e => h e.symm)]
theorem tX_put {ts : List TabD} {t : TabD} {i j : Nat} (hj : j < ts.length) : tX (ts.set j t) i = if i = j then t else tX ts i := by
  unfold tX
  by_cases h : i = j
  · subst h; rw [if_pos rfl, List.getElem?_set_self hj]; rfl
  · rw [if_neg h, List.getElem?_set_ne (fun e => h e.symm)]
/-- A record stored. -/
theorem DRc.put {g j m cv : Nat} {V : Option Addr} {r : RecD} (h : DRc w lo (some ⟨g, 0, none⟩) n c rs) (hj : j < n) (hv : OwnI w lo w.heap.size V m cv r.vals) :
    DRc (((w.setCell ⟨g, j * 3, none⟩ (.int .i64 r.area)).setCell ⟨g, j * 3 + 1, none⟩ (.int .i64 r.house)).setCell ⟨g, j * 3 + 2, none⟩ (.slice V m cv)) lo (some ⟨g, 0, none⟩) n c (rs.set j r) := by
  obtain ⟨ys, h0, h2⟩ := h.cells
  have hl := h0.1
  have hlen := h.len
  obtain ⟨h1, g1⟩ := World.ownsRow.stored h0 (j * 3) (.int .i64 r.area)
  obtain ⟨h1, g2⟩ := World.ownsRow.stored h1 (j * 3 + 1) (.int .i64 r.house)
  obtain ⟨h1, g3⟩ := World.ownsRow.stored h1 (j * 3 + 2) (.slice V m cv)
  have hg := (g1.trans g2).trans g3
  refine ⟨by simp [hlen], _, h1, fun i hi => ?_⟩
  unfold rA rH rV
  rw [rX_put (by omega)]
  by_cases e : i = j
  · subst e
    rw [if_pos rfl]
    exact ⟨V, m, cv, set3 (p := 0) (by omega) (by omega), set3 (p := 1) (by omega) (by omega), set3 (p := 2) (by omega) (by omega), hv.farRow h0 (by decide) hg⟩
  · rw [if_neg e]
    obtain ⟨V', m', cv', e0, e1, e2, hv'⟩ := h2 i hi
    exact ⟨V', m', cv', (set3n (p := 0) (by omega) e).trans e0, (set3n (p := 1) (by omega) e).trans e1, (set3n (p := 2) (by omega) e).trans e2, hv'.farRow h0 (by decide) hg⟩
/-- A table stored. -/
theorem DTl.put {g j m cv k cu : Nat} {V U : Option Addr} {ts : List TabD} {t : TabD} (h : DTl w lo (some ⟨g, 0, none⟩) n c ts) (hj : j < n) (hv : OwnI w lo w.heap.size V m cv t.vars) (hu : OwnI w lo w.heap.size U k cu t.wh) :
    DTl ((((w.setCell ⟨g, j * 4, none⟩ (.int .i64 t.lv)).setCell ⟨g, j * 4 + 1, none⟩ (.slice V m cv)).setCell ⟨g, j * 4 + 2, none⟩ (.slice U k cu)).setCell ⟨g, j * 4 + 3, none⟩ (.int .i64 t.sum)) lo (some ⟨g, 0, none⟩) n c (ts.set j t) := by
  obtain ⟨ys, h0, h2⟩ := h.cells
  have hl := h0.1
  have hlen := h.len
  obtain ⟨h1, g1⟩ := World.ownsRow.stored h0 (j * 4) (.int .i64 t.lv)
  obtain ⟨h1, g2⟩ := World.ownsRow.stored h1 (j * 4 + 1) (.slice V m cv)
  obtain ⟨h1, g3⟩ := World.ownsRow.stored h1 (j * 4 + 2) (.slice U k cu)
  obtain ⟨h1, g4⟩ := World.ownsRow.stored h1 (j * 4 + 3) (.int .i64 t.sum)
  have hg := ((g1.trans g2).trans g3).trans g4
  refine ⟨by simp [hlen], _, h1, fun i hi => ?_⟩
  rw [tX_put (by omega)]
  by_cases e : i = j
  · subst e
    rw [if_pos rfl]
    exact ⟨V, m, cv, U, k, cu, set4 (p := 0) (by omega) (by omega), set4 (p := 1) (by omega) (by omega), set4 (p := 2) (by omega) (by omega), set4 (p := 3) (by omega) (by omega), hv.farRow h0 (by decide) hg, hu.farRow h0 (by decide) hg⟩
  · rw [if_neg e]
    obtain ⟨V', m', cv', U', k', cu', e0, e1, e2, e3, hv', hu'⟩ := h2 i hi
    exact ⟨V', m', cv', U', k', cu', (set4n (p := 0) (by omega) e).trans e0, (set4n (p := 1) (by omega) e).trans e1, (set4n (p := 2) (by omega) e).trans e2, (set4n (p := 3) (by omega) e).trans e3, hv'.farRow h0 (by decide) hg, hu'.farRow h0 (by decide) hg⟩
/-- Rows of zeros made. -/
theorem DTl.made (h : w.ownsRow lo 56 4 (.slice A n c) n (madeCells (Value.agg #[.int .i64 0, .slice none 0 0, .slice none 0 0, .int .i64 0]).cells (n * 4)).toList) : DTl w lo A n c (List.replicate n tab0) := by
  refine ⟨by simp, _, h, fun j hj => ?_⟩
  have e : tX (List.replicate n tab0) j = tab0 := by unfold tX; rw [List.getElem?_replicate]; split <;> rfl
  have hz : (Value.agg #[.int .i64 0, .slice none 0 0, .slice none 0 0, .int .i64 0]).cells = #[.int .i64 0, .slice none 0 0, .slice none 0 0, .int .i64 0] := rfl
  rw [e, hz]
  refine ⟨none, 0, 0, none, 0, 0, ?_, ?_, ?_, ?_, ⟨Own.nil_, (fun k hk => by cases hk), by omega⟩, ⟨Own.nil_, (fun k hk => by cases hk), by omega⟩⟩
  · rw [made_at _ _ _ (by omega), show j * 4 % (#[Value.int .i64 0, .slice none 0 0, .slice none 0 0, .int .i64 0] : Array Value).size = 0 by simp]; rfl
  · rw [made_at _ _ _ (by omega), show (j * 4 + 1) % (#[Value.int .i64 0, .slice none 0 0, .slice none 0 0, .int .i64 0] : Array Value).size = 1 by simp]; rfl
  · rw [made_at _ _ _ (by omega), show (j * 4 + 2) % (#[Value.int .i64 0, .slice none 0 0, .slice none 0 0, .int .i64 0] : Array Value).size = 2 by simp]; rfl
  · rw [made_at _ _ _ (by omega), show (j * 4 + 3) % (#[Value.int .i64 0, .slice none 0 0, .slice none 0 0, .int .i64 0] : Array Value).size = 3 by simp]; rfl
theorem DRc.made (h : w.ownsRow lo 135 3 (.slice A n c) n (madeCells (Value.agg #[.int .i64 0, .int .i64 0, .slice none 0 0]).cells (n * 3)).toList) : DRc w lo A n c (List.replicate n rec0) := by
  refine ⟨by simp, _, h, fun j hj => ?_⟩
  have e : rX (List.replicate n rec0) j = rec0 := by unfold rX; rw [List.getElem?_replicate]; split <;> rfl
  have hz : (Value.agg #[.int .i64 0, .int .i64 0, .slice none 0 0]).cells = #[.int .i64 0, .int .i64 0, .slice none 0 0] := rfl
  unfold rA rH rV
  rw [e, hz]
  refine ⟨none, 0, 0, ?_, ?_, ?_, ⟨Own.nil_, (fun k hk => by cases hk), by omega⟩⟩
  · rw [made_at _ _ _ (by omega), show j * 3 % (#[Value.int .i64 0, .int .i64 0, .slice none 0 0] : Array Value).size = 0 by simp]; rfl
  · rw [made_at _ _ _ (by omega), show (j * 3 + 1) % (#[Value.int .i64 0, .int .i64 0, .slice none 0 0] : Array Value).size = 1 by simp]; rfl
  · rw [made_at _ _ _ (by omega), show (j * 3 + 2) % (#[Value.int .i64 0, .int .i64 0, .slice none 0 0] : Array Value).size = 2 by simp]; rfl
end
/-- What is copied so far, then zeros. -/
def padT (ts : List TabD) (n k : Nat) : List TabD := ts.take k ++ List.replicate (n - k) tab0
def padR (rs : List RecD) (n k : Nat) : List RecD := rs.take k ++ List.replicate (n - k) rec0
theorem padT_0 (ts : List TabD) (n : Nat) : padT ts n 0 = List.replicate n tab0 := by simp [padT]
theorem padR_0 (rs : List RecD) (n : Nat) : padR rs n 0 = List.replicate n rec0 := by simp [padR]
theorem padT_n {ts : List TabD} {n : Nat} (h : ts.length = n) : padT ts n n = ts := by subst h; simp [padT]
theorem padR_n {rs : List RecD} {n : Nat} (h : rs.length = n) : padR rs n n = rs := by subst h; simp [padR]
theorem pad_set {α : Type} {l : List α} {d x : α} {n k : Nat} (hl : l.length = n) (hk : k < n) (hx : l[k]? = some x) : (l.take k ++ List.replicate (n - k) d).set k x = l.take (k + 1) ++ List.replicate (n - (k + 1)) d := by
  have h1 : (l.take k).length = k := by rw [List.length_take]; omega
  rw [List.set_append_right _ _ (by omega), h1, Nat.sub_self]
  obtain ⟨m, hm⟩ : ∃ m, n - k = m + 1 := ⟨n - k - 1, by omega⟩
  rw [hm, List.replicate_succ, List.set_cons_zero, List.take_add_one, hx, show n - (k + 1) = m by omega]
  simp
theorem padT_set {ts : List TabD} {n k : Nat} (hl : ts.length = n) (hk : k < n) : (padT ts n k).set k (tX ts k) = padT ts n (k + 1) := pad_set hl hk (by unfold tX; rw [List.getElem?_eq_getElem (by omega)]; rfl)
theorem padR_set {rs : List RecD} {n k : Nat} (hl : rs.length = n) (hk : k < n) : (padR rs n k).set k (rX rs k) = padR rs n (k + 1) := pad_set hl hk (by unfold rX; rw [List.getElem?_eq_getElem (by omega)]; rfl)
end

section
open Go.RowKit

theorem add_succ (ad : Addr) (m : Nat) : ad.add (m + 1) = ⟨(ad.add m).block, (ad.add m).off + 1, none⟩ := by
  unfold Addr.add
  rw [if_neg (by omega)]
  by_cases h : m = 0
  · subst h; rfl
  · rw [if_neg h]; simp only [Nat.add_assoc]
theorem vcells_read {w : World} {ad : Addr} {n : Nat} {vs : List (ByteArray × Int)} (h : VarsR w (some ad) n vs) (j : Nat) (u : Value) (hj : (vcells vs)[j]? = some u) : w.cell? (ad.add j) = some u := by
  have hl := h.1
  have hlt : j < (vcells vs).length := (List.getElem?_eq_some_iff.1 hj).1
  rw [vcells_len] at hlt
  obtain ⟨k, hk⟩ : ∃ k, j = k * 2 ∨ j = k * 2 + 1 := ⟨j / 2, by omega⟩
  have hkn : k < n := by omega
  obtain ⟨ad', e, c0, c1⟩ := h.at_ hkn
  obtain rfl : ad = ad' := by injection e
  have hv := vcells_at vs k (by omega)
  rcases hk with rfl | rfl
  · rw [hv.1] at hj; injection hj with hj; subst hj; exact c0
  · rw [hv.2] at hj; injection hj with hj; subst hj; rw [add_succ]; exact c1
theorem below_put3 {w0 w : World} {B g k : Nat} {a b c : Value} (h : Below B w0 w) (hg : B ≤ g) : Below B w0 (((w.setCell ⟨g, k * 3, none⟩ a).setCell ⟨g, k * 3 + 1, none⟩ b).setCell ⟨g, k * 3 + 2, none⟩ c) := ((h.setCell (by exact hg) _).setCell (by exact hg) _).setCell (by exact hg) _
theorem vcells_one (vs : List (ByteArray × Int)) : ∀ u ∈ vcells vs, u.oneCell' = true := by
  induction vs with
  | nil => intro u hu; cases hu
  | cons p vs ih =>
    intro u hu
    rw [vcells] at hu
    rcases List.mem_cons.1 hu with rfl | hu
    · rfl
    · rcases List.mem_cons.1 hu with rfl | hu
      · rfl
      · exact ih u hu

set_option maxRecDepth 100000 in
set_option maxHeartbeats 4000000 in
theorem cloneI_any (A : Option Addr) (n c : Nat) (xs : List Int) (w : World) (hx : IntR w A n xs) :
    Calls Tryz.prog 146 #[.slice A n c] w fun e w' => ∃ A' c', e = .returned (.slice A' n c') ∧ OwnI w' w.heap.size w'.heap.size A' n c' xs ∧ Below w.heap.size w w' := by
  have hn := hx.bd
  have q22 : ∀ (w : World) (a : Option Addr) (n c n' c' : Nat), (binOp .eql 22 (.slice a n c) (.slice none n' c')).run Tryz.prog w = .ok (.bool a.isNone) w := fun w a n c n' c' => Lib.run_eql_slice_nil w _ _ a n c n' c' Tryz.underlying22
  rcases A with _ | ad
  · have h0 : n = 0 := by
      rcases Nat.eq_zero_or_pos n with h0 | h0
      · exact h0
      · obtain ⟨_, e, _⟩ := hx.i.at_ h0; cases e
    subst h0
    obtain rfl : xs = [] := List.eq_nil_of_length_eq_zero hx.i.1
    clear hx
    go_enter Tryz.func146, Tryz.ntmps146
    go_wp2
    go_ret
    exact ⟨none, 0, rfl, ⟨Own.nil_, (fun k hk => by cases hk), by omega⟩, Below.refl _ _⟩
  · have b0 := below_new w (.cells #[] 3)
    have o0 := own_new w [] 0 rfl (by omega)
    have hx0 := hx.i.below b0
    have z0 := b0.size
    clear hx
    go_enter Tryz.func146, Tryz.ntmps146
    go_wp2_with (at_builtin; refine wp_app rfl _ _ rfl w.heap.size (some ⟨w.heap.size, 0, none⟩) 0 0 [] rfl o0 (some ad) n c xs rfl hx0 (by omega) z0 ?_; intro A2 c2 w2 hown hg _)
    simp only [Nat.zero_add, List.nil_append] at hown ⊢
    have B2 := Lib.hid (below_write b0 hg z0 (fun k hk => by simp [rowOf] at hk; omega))
    have O2 := Lib.hid (OwnI.of_own hown (by omega))
    clear b0 o0 hx0 hown hg q22
    go_wp2
    go_ret
    exact ⟨A2, c2, rfl, O2.out, B2.out⟩

set_option maxRecDepth 100000 in
set_option maxHeartbeats 4000000 in
theorem cloneV_any (A : Option Addr) (n c : Nat) (vs : List (ByteArray × Int)) (w : World) (hx : SchR w A n c vs) (h0 : 0 < n) :
    Calls Tryz.prog 147 #[.slice A n c] w fun e w' => ∃ A' c', e = .returned (.slice A' n c') ∧ OwnV w' w.heap.size w'.heap.size A' n c' vs ∧ n ≤ c' ∧ Below w.heap.size w w' := by
  have hn := hx.bd
  obtain ⟨i0, hi, hz0, hz1, hz2⟩ := info_parts Tryz.infoVariable
  have q22 : ∀ (w : World) (a : Option Addr) (n c n' c' : Nat), (binOp .eql 37 (.slice a n c) (.slice none n' c')).run Tryz.prog w = .ok (.bool a.isNone) w := fun w a n c n' c' => Lib.run_eql_slice_nil w _ _ a n c n' c' Tryz.underlying37
  obtain ⟨ad, rfl, _⟩ := hx.v.at_ h0
  have b0 := below_new w (.cells #[] 133)
  have o0 := World.ownsRow_made (base := w.heap.size) (e := 133) (size := 2) w #[] 0 (Nat.le_refl _) (Nat.zero_le _) rfl
  have hx0 := (hx.below b0).v
  have hl := hx.v.1
  have z0 := b0.size
  have hm : n + 0 ≤ maxLen := by unfold maxLen; omega
  clear hx
  go_enter Tryz.func147, Tryz.ntmps147
  go_wp2_with (at_builtin; refine wpList_append_own_at _ rfl _ _ 37 rfl w.heap.size 133 i0 _ 2 24 Tryz.underlying37 hi hz0 hz1 hz2 rfl (by omega) (.slice (some ⟨w.heap.size, 0, none⟩) 0 0) 0 [] rfl o0 ad n c (vcells vs) rfl (by rw [vcells_len, hl]) (vcells_read hx0) (vcells_one vs) (by omega) (by omega) z0 ?_; intro v' w2 hown hg hnil hrow)
  simp only [Nat.zero_add, List.nil_append] at hown
  have hv : ∃ A2 c2, v' = .slice A2 n c2 ∧ n ≤ c2 := by
    rcases hown.2 with ⟨h1, h2⟩ | ⟨g, cap, cur, e, _, _, h3, _⟩
    · omega
    · exact ⟨_, _, e, h3⟩
  obtain ⟨A2, c2, rfl, hc2⟩ := hv
  have B2 := Lib.hid (below_write b0 (A := some ⟨w.heap.size, 0, none⟩) (by simpa [Value.ownBlock, rowOf] using hg) z0 (fun k hk => by simp [rowOf] at hk; omega))
  have O2 := Lib.hid (OwnV.mk (lo := w.heap.size) (hi := w2.heap.size) hown (fun k hk => (row_ge hown k hk).2) hn)
  clear b0 o0 hx0 hown hg hnil hrow q22 hi hz0 hz1 hz2
  go_wp2
  go_ret
  exact ⟨A2, c2, rfl, O2.out, hc2, B2.out⟩

set_option maxRecDepth 100000 in
set_option maxHeartbeats 4000000 in
theorem copyTable_any (V U : Option Addr) (m d k e : Nat) (t : TabD) (w : World) (ht : TabR w V m U k t) :
    Calls Tryz.prog 145 #[.agg #[.int .i64 t.lv, .slice V m d, .slice U k e, .int .i64 t.sum]] w fun e w' => ∃ (V' : Option Addr) (cv : Nat) (U' : Option Addr) (cu : Nat), e = .returned (.agg #[.int .i64 t.lv, .slice V' m cv, .slice U' k cu, .int .i64 t.sum]) ∧ OwnI w' w.heap.size w'.heap.size V' m cv t.vars ∧ OwnI w' w.heap.size w'.heap.size U' k cu t.wh ∧ Below w.heap.size w w' := by
  obtain ⟨b0, x1, x2⟩ := box_two w #[.int .i64 t.lv, .slice V m d, .slice U k e, .int .i64 t.sum] #[.int .i64 0, .slice none 0 0, .slice none 0 0, .int .i64 0] 56 56
  have HS := Lib.hid (show ((w.alloc (.cells #[.int .i64 t.lv, .slice V m d, .slice U k e, .int .i64 t.sum] 56)).alloc (.cells #[.int .i64 0, .slice none 0 0, .slice none 0 0, .int .i64 0] 56)).heap.size = w.heap.size + 1 + 1 by simp)
  have HT := Lib.hid (ht.below b0)
  have X1 := Lib.hid x1
  have X2 := Lib.hid x2
  have HB := Lib.hid b0
  clear ht b0 x1 x2
  go_enter Tryz.func145, Tryz.ntmps145
  have l1 := lt_of_block X1.out
  have ap0 := bxc X1.out 0 _ rfl
  have ag0 := bxf X1.out 0
  have ap1 := bxc X1.out 1 _ rfl
  have ag1 := bxf X1.out 1
  have ap2 := bxc X1.out 2 _ rfl
  have ag2 := bxf X1.out 2
  have ap3 := bxc X1.out 3 _ rfl
  have ag3 := bxf X1.out 3
  go_wp2_with fail
  generalize ((w.alloc (.cells #[.int .i64 t.lv, .slice V m d, .slice U k e, .int .i64 t.sum] 56)).alloc (.cells #[.int .i64 0, .slice none 0 0, .slice none 0 0, .int .i64 0] 56)) = w1 at *
  have hs1 : w.heap.size + 1 + 1 ≤ w1.heap.size := Nat.le_of_eq HS.out.symm
  go_region_law ((first | (go_simp; go_at_call 146; refine (cloneI_any V m d t.vars _ (HT.out.v.below (Below.refl _ _).drew)).mono ?_; rintro e9 w2 ⟨V', cv, rfl, oV, b2⟩; have b2' : Below w1.heap.size w1 w2 := (Below.refl _ _).drew.trans b2; have z2 := b2'.size; have OV : Hid (OwnI w2 w1.heap.size w2.heap.size V' m cv t.vars) := Lib.hid oV; have HU := Lib.hid (HT.out.u.below b2'); have X12 := Lib.hid (bxb X1.out b2'); have X22 := Lib.hid (bxb X2.out b2'); have HB2 := Lib.hid (HB.out.trans (b2'.mono HB.out.size)); have ll1 := lt_of_block X12.out; have bp0 := bxc X12.out 0 _ rfl; have bg0 := bxf X12.out 0; have bp1 := bxc X12.out 1 _ rfl; have bg1 := bxf X12.out 1; have bp2 := bxc X12.out 2 _ rfl; have bg2 := bxf X12.out 2; have bp3 := bxc X12.out 3 _ rfl; have bg3 := bxf X12.out 3; clear oV b2 b2'; dsimp only) | (go_simp; go_at_call 146; refine (cloneI_any U k e t.wh _ HU.out).mono ?_; rintro e9 w3 ⟨U', cu, rfl, oU, b3⟩; have z3 := b3.size; have OV3 := Lib.hid (OV.out.below b3); have OU := Lib.hid oU; have X13 := Lib.hid (bxb X12.out b3); have X23 := Lib.hid (bxb X22.out b3); have HB3 := Lib.hid (HB2.out.trans (b3.mono HB2.out.size)); have ll2 := lt_of_block X13.out; have cp0 := bxc X13.out 0 _ rfl; have cg0 := bxf X13.out 0; have cp1 := bxc X13.out 1 _ rfl; have cg1 := bxf X13.out 1; have cp2 := bxc X13.out 2 _ rfl; have cg2 := bxf X13.out 2; have cp3 := bxc X13.out 3 _ rfl; have cg3 := bxf X13.out 3; clear oU b3; dsimp only)))
  all_goals (have OV4 : Hid (OwnI ((w3.setCell ⟨w.heap.size, 1, none⟩ (.slice V' m cv)).setCell ⟨w.heap.size, 2, none⟩ (.slice U' k cu)) w.heap.size (((w3.setCell ⟨w.heap.size, 1, none⟩ (.slice V' m cv)).setCell ⟨w.heap.size, 2, none⟩ (.slice U' k cu))).heap.size V' m cv t.vars) := Lib.hid ((OV3.out.fit (show w.heap.size ≤ w1.heap.size by omega)).off X13.out (by decide) (fun j hj => puts_ne (g := w.heap.size) [(1, .slice V' m cv), (2, .slice U' k cu)] w3 hj) (puts_size (g := w.heap.size) [(1, .slice V' m cv), (2, .slice U' k cu)] w3)))
  all_goals (have OU4 : Hid (OwnI ((w3.setCell ⟨w.heap.size, 1, none⟩ (.slice V' m cv)).setCell ⟨w.heap.size, 2, none⟩ (.slice U' k cu)) w.heap.size (((w3.setCell ⟨w.heap.size, 1, none⟩ (.slice V' m cv)).setCell ⟨w.heap.size, 2, none⟩ (.slice U' k cu))).heap.size U' k cu t.wh) := Lib.hid ((OU.out.fit (show w.heap.size ≤ w2.heap.size by omega)).off X13.out (by decide) (fun j hj => puts_ne (g := w.heap.size) [(1, .slice V' m cv), (2, .slice U' k cu)] w3 hj) (puts_size (g := w.heap.size) [(1, .slice V' m cv), (2, .slice U' k cu)] w3)))
  all_goals (have X14 : Hid ((((w3.setCell ⟨w.heap.size, 1, none⟩ (.slice V' m cv)).setCell ⟨w.heap.size, 2, none⟩ (.slice U' k cu))).heap[w.heap.size]? = some (.cells #[.int .i64 t.lv, .slice V' m cv, .slice U' k cu, .int .i64 t.sum] 56 (0, 0))) := Lib.hid (box_set (box_set X13.out 1 _) 2 _))
  all_goals (have X24 : Hid ((((w3.setCell ⟨w.heap.size, 1, none⟩ (.slice V' m cv)).setCell ⟨w.heap.size, 2, none⟩ (.slice U' k cu))).heap[w.heap.size + 1]? = some (.cells #[.int .i64 0, .slice none 0 0, .slice none 0 0, .int .i64 0] 56 (0, 0))) := Lib.hid ((puts_ne (g := w.heap.size) [(1, .slice V' m cv), (2, .slice U' k cu)] w3 (by omega)).trans X23.out))
  all_goals (have HB4 : Hid (Below w.heap.size w ((w3.setCell ⟨w.heap.size, 1, none⟩ (.slice V' m cv)).setCell ⟨w.heap.size, 2, none⟩ (.slice U' k cu))) := Lib.hid (puts_below (g := w.heap.size) [(1, .slice V' m cv), (2, .slice U' k cu)] w3 HB3.out (Nat.le_refl _)))
  all_goals (clear OV3 OU X13 X23 HB3 ll1 ll2 ap0 ap1 ap2 ap3 ag0 ag1 ag2 ag3 bp0 bp1 bp2 bp3 bg0 bg1 bg2 bg3 cp0 cp1 cp2 cp3 cg0 cg1 cg2 cg3)
  all_goals generalize ((w3.setCell ⟨w.heap.size, 1, none⟩ (.slice V' m cv)).setCell ⟨w.heap.size, 2, none⟩ (.slice U' k cu)) = u at *
  all_goals (have lu := lt_of_block X14.out; have lv := lt_of_block X24.out; have i0 := bxc X14.out 0 (.int .i64 t.lv) rfl; have i1 := bxc X14.out 1 (.slice V' m cv) rfl; have i2 := bxc X14.out 2 (.slice U' k cu) rfl; have i3 := bxc X14.out 3 (.int .i64 t.sum) rfl; have ep0 := bxc X24.out 0 _ rfl; have eg0 := bxf X24.out 0; have ep1 := bxc X24.out 1 _ rfl; have eg1 := bxf X24.out 1; have ep2 := bxc X24.out 2 _ rfl; have eg2 := bxf X24.out 2; have ep3 := bxc X24.out 3 _ rfl; have eg3 := bxf X24.out 3; have RX := Lib.hid (box_set (box_set (box_set (box_set X24.out 0 (.int .i64 t.lv)) 1 (.slice V' m cv)) 2 (.slice U' k cu)) 3 (.int .i64 t.sum)); have r0 := bxc RX.out 0 (.int .i64 t.lv) rfl; have r1 := bxc RX.out 1 (.slice V' m cv) rfl; have r2 := bxc RX.out 2 (.slice U' k cu) rfl; have r3 := bxc RX.out 3 (.int .i64 t.sum) rfl; have FV := Lib.hid (OV4.out.off X24.out (by decide) (fun j hj => puts_ne (g := w.heap.size + 1) [(0, .int .i64 t.lv), (1, .slice V' m cv), (2, .slice U' k cu), (3, .int .i64 t.sum)] u hj) (puts_size (g := w.heap.size + 1) [(0, .int .i64 t.lv), (1, .slice V' m cv), (2, .slice U' k cu), (3, .int .i64 t.sum)] u)); have FU := Lib.hid (OU4.out.off X24.out (by decide) (fun j hj => puts_ne (g := w.heap.size + 1) [(0, .int .i64 t.lv), (1, .slice V' m cv), (2, .slice U' k cu), (3, .int .i64 t.sum)] u hj) (puts_size (g := w.heap.size + 1) [(0, .int .i64 t.lv), (1, .slice V' m cv), (2, .slice U' k cu), (3, .int .i64 t.sum)] u)); have FB := Lib.hid (puts_below (g := w.heap.size + 1) [(0, .int .i64 t.lv), (1, .slice V' m cv), (2, .slice U' k cu), (3, .int .i64 t.sum)] u HB4.out (by omega)); clear OV4 OU4 X14 X24 HB4 RX)
  all_goals go_wp2
  all_goals exact bodyPost_ret (v := .agg #[.int .i64 t.lv, .slice V' m cv, .slice U' k cu, .int .i64 t.sum]) (by simp [results, Tryz.results145, go_sem, r0, r1, r2, r3]) rfl ⟨V', cv, U', cu, rfl, FV.out, FU.out, FB.out⟩

set_option maxRecDepth 100000 in
set_option maxHeartbeats 4000000 in
theorem copyRecord_any (x y : Int) (V : Option Addr) (m d : Nat) (xs : List Int) (w : World) (hx : IntR w V m xs) :
    Calls Tryz.prog 185 #[.agg #[.int .i64 x, .int .i64 y, .slice V m d]] w fun e w' => ∃ (V' : Option Addr) (cv : Nat), e = .returned (.agg #[.int .i64 x, .int .i64 y, .slice V' m cv]) ∧ OwnI w' w.heap.size w'.heap.size V' m cv xs ∧ Below w.heap.size w w' := by
  obtain ⟨b0, x1, x2⟩ := box_two w #[.int .i64 x, .int .i64 y, .slice V m d] #[.int .i64 0, .int .i64 0, .slice none 0 0] 135 135
  have HS := Lib.hid (show ((w.alloc (.cells #[.int .i64 x, .int .i64 y, .slice V m d] 135)).alloc (.cells #[.int .i64 0, .int .i64 0, .slice none 0 0] 135)).heap.size = w.heap.size + 1 + 1 by simp)
  have HX := Lib.hid (hx.below b0)
  have X1 := Lib.hid x1
  have X2 := Lib.hid x2
  have HB := Lib.hid b0
  clear hx b0 x1 x2
  go_enter Tryz.func185, Tryz.ntmps185
  have l1 := lt_of_block X1.out
  have ap0 := bxc X1.out 0 _ rfl
  have ag0 := bxf X1.out 0
  have ap1 := bxc X1.out 1 _ rfl
  have ag1 := bxf X1.out 1
  have ap2 := bxc X1.out 2 _ rfl
  have ag2 := bxf X1.out 2
  go_wp2_with fail
  clear l1 ap0 ap1 ap2 ag0 ag1 ag2
  generalize ((w.alloc (.cells #[.int .i64 x, .int .i64 y, .slice V m d] 135)).alloc (.cells #[.int .i64 0, .int .i64 0, .slice none 0 0] 135)) = w1 at *
  have hs1 : w.heap.size + 1 + 1 ≤ w1.heap.size := Nat.le_of_eq HS.out.symm
  refine (cloneI_any V m d xs _ HX.out).mono ?_
  rintro e9 w2 ⟨V', cv, rfl, oV, b2⟩
  have z2 := b2.size
  have X12 := Lib.hid (bxb X1.out b2)
  have X22 := Lib.hid (bxb X2.out b2)
  have HB2 := Lib.hid (HB.out.trans (b2.mono HB.out.size))
  have OV := Lib.hid (oV.fit (show w.heap.size ≤ w1.heap.size by omega))
  have OV4 : Hid (OwnI (w2.setCell ⟨w.heap.size, 2, none⟩ (.slice V' m cv)) w.heap.size ((w2.setCell ⟨w.heap.size, 2, none⟩ (.slice V' m cv))).heap.size V' m cv xs) := Lib.hid (OV.out.off X12.out (by decide) (fun j hj => puts_ne (g := w.heap.size) [(2, .slice V' m cv)] w2 hj) (puts_size (g := w.heap.size) [(2, .slice V' m cv)] w2))
  have X14 : Hid (((w2.setCell ⟨w.heap.size, 2, none⟩ (.slice V' m cv))).heap[w.heap.size]? = some (.cells #[.int .i64 x, .int .i64 y, .slice V' m cv] 135 (0, 0))) := Lib.hid (box_set X12.out 2 _)
  have X24 : Hid (((w2.setCell ⟨w.heap.size, 2, none⟩ (.slice V' m cv))).heap[w.heap.size + 1]? = some (.cells #[.int .i64 0, .int .i64 0, .slice none 0 0] 135 (0, 0))) := Lib.hid ((puts_ne (g := w.heap.size) [(2, .slice V' m cv)] w2 (by omega)).trans X22.out)
  have HB4 : Hid (Below w.heap.size w (w2.setCell ⟨w.heap.size, 2, none⟩ (.slice V' m cv))) := Lib.hid (puts_below (g := w.heap.size) [(2, .slice V' m cv)] w2 HB2.out (Nat.le_refl _))
  have l2 := lt_of_block X12.out
  have c2 := bxc X12.out 2 _ rfl
  have f2 := bxf X12.out 2
  have i0 := bxc X14.out 0 (.int .i64 x) rfl
  have i1 := bxc X14.out 1 (.int .i64 y) rfl
  have i2 := bxc X14.out 2 (.slice V' m cv) rfl
  have ep0 := bxc X24.out 0 _ rfl
  have eg0 := bxf X24.out 0
  have ep1 := bxc X24.out 1 _ rfl
  have eg1 := bxf X24.out 1
  have ep2 := bxc X24.out 2 _ rfl
  have eg2 := bxf X24.out 2
  have l3 := lt_of_block X22.out
  have RX := Lib.hid (box_set (box_set (box_set X24.out 0 (.int .i64 x)) 1 (.int .i64 y)) 2 (.slice V' m cv))
  have r0 := bxc RX.out 0 (.int .i64 x) rfl
  have r1 := bxc RX.out 1 (.int .i64 y) rfl
  have r2 := bxc RX.out 2 (.slice V' m cv) rfl
  have FV := Lib.hid (OV4.out.off X24.out (by decide) (fun j hj => puts_ne (g := w.heap.size + 1) [(0, .int .i64 x), (1, .int .i64 y), (2, .slice V' m cv)] (w2.setCell ⟨w.heap.size, 2, none⟩ (.slice V' m cv)) hj) (puts_size (g := w.heap.size + 1) [(0, .int .i64 x), (1, .int .i64 y), (2, .slice V' m cv)] (w2.setCell ⟨w.heap.size, 2, none⟩ (.slice V' m cv))))
  have FB := Lib.hid (puts_below (g := w.heap.size + 1) [(0, .int .i64 x), (1, .int .i64 y), (2, .slice V' m cv)] (w2.setCell ⟨w.heap.size, 2, none⟩ (.slice V' m cv)) HB4.out (by omega))
  clear oV b2 OV OV4 X12 X22 X14 X24 HB HB2 HB4 RX
  go_wp2
  exact bodyPost_ret (v := .agg #[.int .i64 x, .int .i64 y, .slice V' m cv]) (by simp [results, Tryz.results185, go_sem, r0, r1, r2]) rfl ⟨V', cv, rfl, FV.out, FB.out⟩

set_option maxRecDepth 100000 in
set_option maxHeartbeats 4000000 in
theorem copyTables_any (A : Option Addr) (n c : Nat) (ts : List TabD) (w : World) (hA : TabsR w A n ts) :
    Calls Tryz.prog 144 #[.slice A n c] w fun e w' => ∃ (A' : Option Addr) (c' : Nat), e = .returned (.slice A' n c') ∧ DTl w' w.heap.size A' n c' ts ∧ Below w.heap.size w w' := by
  obtain ⟨i0, hi, hz0, hz1, hz2⟩ := info_parts Tryz.infoTable
  have HA := Lib.hid hA
  have hn := hA.bd
  clear hA
  go_enter Tryz.func144, Tryz.ntmps144
  go_wp2_with (at_make; refine wpList_make_full _ rfl _ _ 39 rfl w.heap.size 56 i0 _ 4 Tryz.underlying39 hi hz0 hz1 .i64 .i64 _ _ n rfl rfl rfl rfl (by rw [hz2]; omega) (by unfold maxLen; omega) (Nat.le_refl _) ?_; intro w1 hown hg)
  have D0 := DTl.made hown
  rw [← padT_0 ts n] at D0
  have hb1 : Below w.heap.size w w1 := (Below.refl _ _).grown hg (Nat.le_refl _) (by simp)
  clear hg hi hz0 hz1 hz2 hown
  go_loopw [11] (fun i wr => ∃ k : Nat, k ≤ n ∧ i = .int .i64 k ∧ DTl wr w.heap.size (some ⟨w.heap.size, 0, none⟩) n n (padT ts n k) ∧ Below w.heap.size w wr) (fun i _ => n - (intOf i).toNat)
  case atStart => exact ⟨0, Nat.zero_le _, rfl, D0, hb1⟩
  case round =>
    clear D0 hb1
    obtain ⟨k, hk, rfl, hD, hb⟩ := hrel
    have hz := hb.size
    by_cases hlt : k < n
    · obtain ⟨ad, rfl, V, m, d, U, q, e, u0, u1, u2, u3, hu⟩ := (HA.out.below hb).at_ hlt
      have bk := below_new wr (.cells #[.int .i64 (tX ts k).lv, .slice V m d, .slice U q e, .int .i64 (tX ts k).sum] 56)
      have XN := Lib.hid (box_new wr #[.int .i64 (tX ts k).lv, .slice V m d, .slice U q e, .int .i64 (tX ts k).sum] 56)
      have HD := Lib.hid (hD.below bk)
      have HB := Lib.hid (hb.trans (bk.mono hz))
      have z1 := bk.size
      have HU := Lib.hid (hu.below bk)
      clear hD hb bk hu
      have n0 := bxc XN.out 0 _ rfl
      have n1 := bxc XN.out 1 _ rfl
      have n2 := bxc XN.out 2 _ rfl
      have n3 := bxc XN.out 3 _ rfl
      have ln := lt_of_block XN.out
      go_wp2_with fail
      clear ln n0 u0 n1 u1 n2 u2 n3 u3
      generalize wr.alloc (.cells #[.int .i64 (tX ts k).lv, .slice V m d, .slice U q e, .int .i64 (tX ts k).sum] 56) = w4 at *
      refine (copyTable_any V U m d q e (tX ts k) _ HU.out).mono ?_
      rintro e9 w5 ⟨V', cv, U', cu, rfl, oV, oU, b5⟩
      have z5 := b5.size
      have HD5 := Lib.hid (HD.out.below b5)
      have HB5 := Lib.hid (HB.out.trans (b5.mono HB.out.size))
      have OV := Lib.hid (oV.fit (show w.heap.size ≤ w4.heap.size by omega))
      have OU := Lib.hid (oU.fit (show w.heap.size ≤ w4.heap.size by omega))
      clear oV oU
      obtain ⟨ys, hys⟩ := (show ∃ ys, w5.ownsRow w.heap.size 56 4 (.slice (some ⟨w.heap.size, 0, none⟩) n n) n ys from HD5.out.rows)
      obtain ⟨⟨v0, hv0⟩, ⟨v1, hv1⟩, ⟨v2, hv2⟩, ⟨v3, hv3⟩, hf0, hf1, hf2, hf3⟩ := row_four hys hlt
      have D6 := Lib.hid (HD5.out.put (t := tX ts k) hlt OV.out OU.out)
      rw [padT_set HA.out.len hlt] at D6
      clear b5 HD HB HD5 XN HU hys
      go_wp2
      go_roundw
      case rel => exact ⟨k + 1, by omega, by go_num, D6.out, below_put4 HB5.out (Nat.le_refl _)⟩
      case measure => simp [intOf]; omega
    · obtain rfl : k = n := by omega
      rw [padT_n HA.out.len] at hD
      have HD := Lib.hid hD
      have HB := Lib.hid hb
      clear hD hb
      go_wp2
      go_ret
      exact ⟨_, _, rfl, HD.out, HB.out⟩

set_option maxRecDepth 100000 in
set_option maxHeartbeats 4000000 in
theorem copyRecords_any (A : Option Addr) (n c : Nat) (rs : List RecD) (w : World) (hA : DatR w A n rs) :
    Calls Tryz.prog 148 #[.slice A n c] w fun e w' => ∃ (A' : Option Addr) (c' : Nat), e = .returned (.slice A' n c') ∧ DRc w' w.heap.size A' n c' rs ∧ Below w.heap.size w w' := by
  obtain ⟨i0, hi, hz0, hz1, hz2⟩ := info_parts Tryz.infoRecord
  have HA := Lib.hid hA
  have hn := hA.bd
  clear hA
  go_enter Tryz.func148, Tryz.ntmps148
  go_wp2_with (at_make; refine wpList_make_full _ rfl _ _ 38 rfl w.heap.size 135 i0 _ 3 Tryz.underlying38 hi hz0 hz1 .i64 .i64 _ _ n rfl rfl rfl rfl (by rw [hz2]; omega) (by unfold maxLen; omega) (Nat.le_refl _) ?_; intro w1 hown hg)
  have D0 := DRc.made hown
  rw [← padR_0 rs n] at D0
  have hb1 : Below w.heap.size w w1 := (Below.refl _ _).grown hg (Nat.le_refl _) (by simp)
  clear hg hi hz0 hz1 hz2 hown
  go_loopw [11] (fun i wr => ∃ k : Nat, k ≤ n ∧ i = .int .i64 k ∧ DRc wr w.heap.size (some ⟨w.heap.size, 0, none⟩) n n (padR rs n k) ∧ Below w.heap.size w wr) (fun i _ => n - (intOf i).toNat)
  case atStart => exact ⟨0, Nat.zero_le _, rfl, D0, hb1⟩
  case round =>
    clear D0 hb1
    obtain ⟨k, hk, rfl, hD, hb⟩ := hrel
    have hz := hb.size
    by_cases hlt : k < n
    · obtain ⟨ad, rfl, u0, u1, V, m, d, u2, hu0⟩ := (HA.out.below hb).r.at_ hlt
      have hu : IntR wr V m (rV rs k) := ⟨hu0, by have h1 := HA.out.s k hlt; rw [hu0.1] at h1; exact h1⟩
      clear hu0
      have bk := below_new wr (.cells #[.int .i64 (rA rs k), .int .i64 (rH rs k), .slice V m d] 135)
      have XN := Lib.hid (box_new wr #[.int .i64 (rA rs k), .int .i64 (rH rs k), .slice V m d] 135)
      have HD := Lib.hid (hD.below bk)
      have HB := Lib.hid (hb.trans (bk.mono hz))
      have z1 := bk.size
      have HU := Lib.hid (hu.below bk)
      clear hD hb bk hu
      have n0 := bxc XN.out 0 _ rfl
      have n1 := bxc XN.out 1 _ rfl
      have n2 := bxc XN.out 2 _ rfl
      have ln := lt_of_block XN.out
      go_wp2_with fail
      clear ln n0 u0 n1 u1 n2 u2
      generalize wr.alloc (.cells #[.int .i64 (rA rs k), .int .i64 (rH rs k), .slice V m d] 135) = w4 at *
      refine (copyRecord_any (rA rs k) (rH rs k) V m d (rV rs k) _ HU.out).mono ?_
      rintro e9 w5 ⟨V', cv, rfl, oV, b5⟩
      have z5 := b5.size
      have HD5 := Lib.hid (HD.out.below b5)
      have HB5 := Lib.hid (HB.out.trans (b5.mono HB.out.size))
      have OV := Lib.hid (oV.fit (show w.heap.size ≤ w4.heap.size by omega))
      clear oV
      obtain ⟨ys, hys⟩ := (show ∃ ys, w5.ownsRow w.heap.size 135 3 (.slice (some ⟨w.heap.size, 0, none⟩) n n) n ys from HD5.out.rows)
      obtain ⟨⟨v0, hv0⟩, ⟨v1, hv1⟩, ⟨v2, hv2⟩, hf0, hf1, hf2⟩ := row_three hys hlt
      have D6 := Lib.hid (HD5.out.put (r := rX rs k) hlt OV.out)
      rw [padR_set HA.out.len hlt] at D6
      clear b5 HD HB HD5 XN HU hys
      go_wp2
      go_roundw
      case rel => exact ⟨k + 1, by omega, by go_num, D6.out, below_put3 HB5.out (Nat.le_refl _)⟩
      case measure => simp [intOf]; omega
    · obtain rfl : k = n := by omega
      rw [padR_n HA.out.len] at hD
      have HD := Lib.hid hD
      have HB := Lib.hid hb
      clear hD hb
      go_wp2
      go_ret
      exact ⟨_, _, rfl, HD.out, HB.out⟩
end

section
open Go.RowKit

theorem OwnV.offT {w w' : World} {lo hi b n c : Nat} {A : Option Addr} {vs : List (ByteArray × Int)} {cs : Array Value} {T : TypeId} (h : OwnV w lo hi A n c vs) (hb : w.heap[b]? = some (.cells cs T (0, 0))) (hT : T ≠ 133) (hw : ∀ k, k ≠ b → w'.heap[k]? = w.heap[k]?) : OwnV w' lo hi A n c vs :=
  ⟨row_keep h.own (fun k _ hA _ => hw k (fun e => row_ne_box h.own hb hT (by rw [hA, e]))), h.top, h.small⟩
theorem OwnI.offT {w w' : World} {lo hi b n c : Nat} {A : Option Addr} {xs : List Int} {cs : Array Value} {T : TypeId} (h : OwnI w lo hi A n c xs) (hb : w.heap[b]? = some (.cells cs T (0, 0))) (hT : T ≠ 3) (hw : ∀ k, k ≠ b → w'.heap[k]? = w.heap[k]?) : OwnI w' lo hi A n c xs :=
  ⟨h.own.keep fun g hA _ => hw g (fun e => own_ne h.own hb hT (by rw [hA, e]; rfl)), h.top, h.small⟩
/-- A server's rows, of the call's own, but for the answered tables. -/
structure CSo (W : World) (P A Z Y : Option Addr) (g cg n c m cm p cp : Nat) (D : SvD) : Prop where
  oP : ∃ lo hi, OwnI W lo hi P g cg D.par
  oA : ∃ lo hi, OwnV W lo hi A n c D.vs
  oZ : ∃ lo, DRc W lo Z m cm D.rs
  oY : ∃ lo, DTl W lo Y p cp D.plan
  hc : n ≤ c
  hv : ∀ j, j < n → (vN D.vs j).size ≤ 1099511627776
  bn : n ≤ 1099511627776
  bm : m ≤ 1099511627776
  bp : p ≤ 1099511627776
section
variable {W W' : World} {P A Z Y Q : Option Addr} {g cg n c m cm p cp q cq b lo : Nat} {D : SvD} {cs : Array Value}
theorem CSo.below (h : CSo W P A Z Y g cg n c m cm p cp D) (hb : Below W.heap.size W W') : CSo W' P A Z Y g cg n c m cm p cp D := by
  obtain ⟨⟨_, _, a1⟩, ⟨_, _, a2⟩, ⟨_, a3⟩, ⟨_, a4⟩, a5, a6, a7, a8, a9⟩ := h
  exact ⟨⟨_, _, a1.below hb⟩, ⟨_, _, a2.below hb⟩, ⟨_, a3.below hb⟩, ⟨_, a4.below hb⟩, a5, a6, a7, a8, a9⟩
theorem CSo.off (h : CSo W P A Z Y g cg n c m cm p cp D) (hb : W.heap[b]? = some (.cells cs 44 (0, 0))) (hw : ∀ k, k ≠ b → W'.heap[k]? = W.heap[k]?) (hz : W'.heap.size = W.heap.size) : CSo W' P A Z Y g cg n c m cm p cp D := by
  obtain ⟨⟨_, _, a1⟩, ⟨_, _, a2⟩, ⟨_, a3⟩, ⟨_, a4⟩, a5, a6, a7, a8, a9⟩ := h
  exact ⟨⟨_, _, a1.offT hb (by decide) hw⟩, ⟨_, _, a2.offT hb (by decide) hw⟩, ⟨_, a3.off hb (by decide) (by decide) hw hz⟩, ⟨_, a4.off hb (by decide) (by decide) hw hz⟩, a5, a6, a7, a8, a9⟩
theorem CSo.sv {us : List TabD} (h : CSo W P A Z Y g cg n c m cm p cp D) (hQ : DTl W lo Q q cq us) (hq : q ≤ 1099511627776) : SvR W P A Z Y Q g n c m p cp q cq { D with asked := us } := by
  obtain ⟨⟨_, _, a1⟩, ⟨_, _, a2⟩, ⟨_, a3⟩, ⟨_, a4⟩, a5, a6, a7, a8, a9⟩ := h
  exact ⟨⟨a1.intR, ⟨a2.vars, a6, a7, a5⟩, a3.recs a8⟩, a4.tabs a9, hQ.tabs hq, a4.cap, hQ.cap⟩
end
/-- A server copied. -/
def CSv (w : World) (g n m p q : Nat) (D : SvD) (e : Ending) (w' : World) : Prop := ∃ (P A Z Y Q : Option Addr) (cg c cm cp cq : Nat), e = .returned (.agg #[.slice P g cg, .slice A n c, .slice Z m cm, .slice Y p cp, .int .i64 D.cost.a, .int .i64 D.cost.b, .int .i64 D.cost.c, .int .i64 D.cost.d, .int .i64 D.bud.a, .int .i64 D.bud.b, .int .i64 D.bud.c, .int .i64 D.bud.d, .int .i64 D.floor, .slice Q q cq]) ∧ CSo w' P A Z Y g cg n c m cm p cp D ∧ DTl w' w.heap.size Q q cq D.asked ∧ Below w.heap.size w w'
theorem OwnV.offB {w w' : World} {lo hi b n c : Nat} {A : Option Addr} {vs : List (ByteArray × Int)} (h : OwnV w lo hi A n c vs) (hb : b < lo) (hw : ∀ k, k ≠ b → w'.heap[k]? = w.heap[k]?) : OwnV w' lo hi A n c vs := h.keep fun g hg _ _ => hw g (by omega)
theorem OwnI.offB {w w' : World} {lo hi b n c : Nat} {A : Option Addr} {xs : List Int} (h : OwnI w lo hi A n c xs) (hb : b < lo) (hw : ∀ k, k ≠ b → w'.heap[k]? = w.heap[k]?) : OwnI w' lo hi A n c xs :=
  ⟨h.own.keep fun g hA _ => hw g (by have := (h.own.row_ge g (by rw [hA]; rfl)).1; omega), h.top, h.small⟩

set_option maxRecDepth 100000 in
set_option maxHeartbeats 4000000 in
theorem copyServer_any (P A Z Y Q : Option Addr) (g cg n c m cm p cp q cq : Nat) (D : SvD) (w : World) (hV : SvR w P A Z Y Q g n c m p cp q cq D) (h0 : 0 < n) :
    Calls Tryz.prog 92 #[.agg #[.slice P g cg, .slice A n c, .slice Z m cm, .slice Y p cp, .int .i64 D.cost.a, .int .i64 D.cost.b, .int .i64 D.cost.c, .int .i64 D.cost.d, .int .i64 D.bud.a, .int .i64 D.bud.b, .int .i64 D.bud.c, .int .i64 D.bud.d, .int .i64 D.floor, .slice Q q cq]] w (CSv w g n m p q D) := by
  obtain ⟨b0, x1, x2⟩ := box_two w #[.slice P g cg, .slice A n c, .slice Z m cm, .slice Y p cp, .int .i64 D.cost.a, .int .i64 D.cost.b, .int .i64 D.cost.c, .int .i64 D.cost.d, .int .i64 D.bud.a, .int .i64 D.bud.b, .int .i64 D.bud.c, .int .i64 D.bud.d, .int .i64 D.floor, .slice Q q cq] #[.slice none 0 0, .slice none 0 0, .slice none 0 0, .slice none 0 0, .int .i64 0, .int .i64 0, .int .i64 0, .int .i64 0, .int .i64 0, .int .i64 0, .int .i64 0, .int .i64 0, .int .i64 0, .slice none 0 0] 44 44
  have HS := Lib.hid (show ((w.alloc (.cells #[.slice P g cg, .slice A n c, .slice Z m cm, .slice Y p cp, .int .i64 D.cost.a, .int .i64 D.cost.b, .int .i64 D.cost.c, .int .i64 D.cost.d, .int .i64 D.bud.a, .int .i64 D.bud.b, .int .i64 D.bud.c, .int .i64 D.bud.d, .int .i64 D.floor, .slice Q q cq] 44)).alloc (.cells #[.slice none 0 0, .slice none 0 0, .slice none 0 0, .slice none 0 0, .int .i64 0, .int .i64 0, .int .i64 0, .int .i64 0, .int .i64 0, .int .i64 0, .int .i64 0, .int .i64 0, .int .i64 0, .slice none 0 0] 44)).heap.size = w.heap.size + 1 + 1 by simp)
  have X1 := Lib.hid x1
  have X2 := Lib.hid x2
  have HB := Lib.hid b0
  clear b0 x1 x2
  go_enter Tryz.func92, Tryz.ntmps92
  have l1 := lt_of_block X1.out
  have c0 := bxc X1.out 0 _ rfl
  go_wp2_with fail
  clear l1 c0
  generalize ((w.alloc (.cells #[.slice P g cg, .slice A n c, .slice Z m cm, .slice Y p cp, .int .i64 D.cost.a, .int .i64 D.cost.b, .int .i64 D.cost.c, .int .i64 D.cost.d, .int .i64 D.bud.a, .int .i64 D.bud.b, .int .i64 D.bud.c, .int .i64 D.bud.d, .int .i64 D.floor, .slice Q q cq] 44)).alloc (.cells #[.slice none 0 0, .slice none 0 0, .slice none 0 0, .slice none 0 0, .int .i64 0, .int .i64 0, .int .i64 0, .int .i64 0, .int .i64 0, .int .i64 0, .int .i64 0, .int .i64 0, .int .i64 0, .slice none 0 0] 44)) = u0 at *
  have hs0 : w.heap.size + 1 + 1 ≤ u0.heap.size := Nat.le_of_eq HS.out.symm
  refine (cloneI_any P g cg D.par _ (hV.sur.p.below HB.out)).mono ?_
  rintro e w1 ⟨P1, cg1, rfl, oo, b1⟩
  have z1 := b1.size
  have X1a := Lib.hid (bxb X1.out b1)
  have X2a := Lib.hid (bxb X2.out b1)
  have HBa := Lib.hid (HB.out.trans (b1.mono HB.out.size))
  obtain ⟨lo1, hlo1, hlb1⟩ : ∃ lo, lo = u0.heap.size ∧ w.heap.size + 1 < lo := ⟨_, rfl, by omega⟩
  rw [← hlo1] at oo
  obtain ⟨hi1, hhi1⟩ : ∃ hi, hi = w1.heap.size := ⟨_, rfl⟩
  rw [← hhi1] at oo
  clear hhi1
  have OP := Lib.hid oo
  clear oo hlo1 b1 X1 X2 HB
  have NOP : Hid (OwnI (w1.setCell ⟨w.heap.size, 0, none⟩ (.slice P1 g cg1)) lo1 hi1 P1 g cg1 D.par) := Lib.hid (OP.out.offB (b := w.heap.size) (by omega) (fun j hj => puts_ne (g := w.heap.size) [(0, .slice P1 g cg1)] w1 hj))
  have X1 : Hid ((w1.setCell ⟨w.heap.size, 0, none⟩ (.slice P1 g cg1)).heap[w.heap.size]? = some (.cells #[.slice P1 g cg1, .slice A n c, .slice Z m cm, .slice Y p cp, .int .i64 D.cost.a, .int .i64 D.cost.b, .int .i64 D.cost.c, .int .i64 D.cost.d, .int .i64 D.bud.a, .int .i64 D.bud.b, .int .i64 D.bud.c, .int .i64 D.bud.d, .int .i64 D.floor, .slice Q q cq] 44 (0, 0))) := Lib.hid (box_set X1a.out 0 _)
  have X2 : Hid ((w1.setCell ⟨w.heap.size, 0, none⟩ (.slice P1 g cg1)).heap[w.heap.size + 1]? = some (.cells #[.slice none 0 0, .slice none 0 0, .slice none 0 0, .slice none 0 0, .int .i64 0, .int .i64 0, .int .i64 0, .int .i64 0, .int .i64 0, .int .i64 0, .int .i64 0, .int .i64 0, .int .i64 0, .slice none 0 0] 44 (0, 0))) := Lib.hid ((puts_ne (g := w.heap.size) [(0, .slice P1 g cg1)] w1 (by omega)).trans X2a.out)
  have HB : Hid (Below w.heap.size w (w1.setCell ⟨w.heap.size, 0, none⟩ (.slice P1 g cg1))) := Lib.hid (puts_below (g := w.heap.size) [(0, .slice P1 g cg1)] w1 HBa.out (Nat.le_refl _))
  have hz1 : (w1.setCell ⟨w.heap.size, 0, none⟩ (.slice P1 g cg1)).heap.size = w1.heap.size := puts_size (g := w.heap.size) [(0, .slice P1 g cg1)] w1
  have hs1 : w.heap.size + 1 + 1 ≤ (w1.setCell ⟨w.heap.size, 0, none⟩ (.slice P1 g cg1)).heap.size := by omega
  have pa := bxc X1a.out 0 _ rfl
  have fa := bxf X1a.out 0
  have la := lt_of_block X1a.out
  have lb := lt_of_block X1.out
  clear X1a X2a HBa hz1 OP
  have c2 := bxc X1.out 1 _ rfl
  go_wp2_with fail
  clear pa fa la lb c2
  generalize (w1.setCell ⟨w.heap.size, 0, none⟩ (.slice P1 g cg1)) = u1 at *
  have OP := NOP
  clear NOP
  refine (cloneV_any A n c D.vs _ (hV.sur.s.below HB.out) h0).mono ?_
  rintro e w2 ⟨A1, c1, rfl, oo, hc1, b2⟩
  have z2 := b2.size
  replace OP := Lib.hid (OP.out.below b2)
  have X1a := Lib.hid (bxb X1.out b2)
  have X2a := Lib.hid (bxb X2.out b2)
  have HBa := Lib.hid (HB.out.trans (b2.mono HB.out.size))
  obtain ⟨lo2, hlo2, hlb2⟩ : ∃ lo, lo = u1.heap.size ∧ w.heap.size + 1 < lo := ⟨_, rfl, by omega⟩
  rw [← hlo2] at oo
  obtain ⟨hi2, hhi2⟩ : ∃ hi, hi = w2.heap.size := ⟨_, rfl⟩
  rw [← hhi2] at oo
  clear hhi2
  have OA := Lib.hid oo
  clear oo hlo2 b2 X1 X2 HB
  have NOP : Hid (OwnI (w2.setCell ⟨w.heap.size, 1, none⟩ (.slice A1 n c1)) lo1 hi1 P1 g cg1 D.par) := Lib.hid (OP.out.offB (b := w.heap.size) (by omega) (fun j hj => puts_ne (g := w.heap.size) [(1, .slice A1 n c1)] w2 hj))
  have NOA : Hid (OwnV (w2.setCell ⟨w.heap.size, 1, none⟩ (.slice A1 n c1)) lo2 hi2 A1 n c1 D.vs) := Lib.hid (OA.out.offB (b := w.heap.size) (by omega) (fun j hj => puts_ne (g := w.heap.size) [(1, .slice A1 n c1)] w2 hj))
  have X1 : Hid ((w2.setCell ⟨w.heap.size, 1, none⟩ (.slice A1 n c1)).heap[w.heap.size]? = some (.cells #[.slice P1 g cg1, .slice A1 n c1, .slice Z m cm, .slice Y p cp, .int .i64 D.cost.a, .int .i64 D.cost.b, .int .i64 D.cost.c, .int .i64 D.cost.d, .int .i64 D.bud.a, .int .i64 D.bud.b, .int .i64 D.bud.c, .int .i64 D.bud.d, .int .i64 D.floor, .slice Q q cq] 44 (0, 0))) := Lib.hid (box_set X1a.out 1 _)
  have X2 : Hid ((w2.setCell ⟨w.heap.size, 1, none⟩ (.slice A1 n c1)).heap[w.heap.size + 1]? = some (.cells #[.slice none 0 0, .slice none 0 0, .slice none 0 0, .slice none 0 0, .int .i64 0, .int .i64 0, .int .i64 0, .int .i64 0, .int .i64 0, .int .i64 0, .int .i64 0, .int .i64 0, .int .i64 0, .slice none 0 0] 44 (0, 0))) := Lib.hid ((puts_ne (g := w.heap.size) [(1, .slice A1 n c1)] w2 (by omega)).trans X2a.out)
  have HB : Hid (Below w.heap.size w (w2.setCell ⟨w.heap.size, 1, none⟩ (.slice A1 n c1))) := Lib.hid (puts_below (g := w.heap.size) [(1, .slice A1 n c1)] w2 HBa.out (Nat.le_refl _))
  have hz2 : (w2.setCell ⟨w.heap.size, 1, none⟩ (.slice A1 n c1)).heap.size = w2.heap.size := puts_size (g := w.heap.size) [(1, .slice A1 n c1)] w2
  have hs2 : w.heap.size + 1 + 1 ≤ (w2.setCell ⟨w.heap.size, 1, none⟩ (.slice A1 n c1)).heap.size := by omega
  have pa := bxc X1a.out 1 _ rfl
  have fa := bxf X1a.out 1
  have la := lt_of_block X1a.out
  have lb := lt_of_block X1.out
  clear X1a X2a HBa hz2 OP OA
  have c2 := bxc X1.out 2 _ rfl
  go_wp2_with fail
  clear pa fa la lb c2
  generalize (w2.setCell ⟨w.heap.size, 1, none⟩ (.slice A1 n c1)) = u2 at *
  have OP := NOP
  clear NOP
  have OA := NOA
  clear NOA
  refine (copyRecords_any Z m cm D.rs _ (hV.sur.d.below HB.out)).mono ?_
  rintro e w3 ⟨Z1, cm1, rfl, oo, b3⟩
  have z3 := b3.size
  replace OP := Lib.hid (OP.out.below b3)
  replace OA := Lib.hid (OA.out.below b3)
  have X1a := Lib.hid (bxb X1.out b3)
  have X2a := Lib.hid (bxb X2.out b3)
  have HBa := Lib.hid (HB.out.trans (b3.mono HB.out.size))
  obtain ⟨lo3, hlo3, hlb3⟩ : ∃ lo, lo = u2.heap.size ∧ w.heap.size + 1 < lo := ⟨_, rfl, by omega⟩
  rw [← hlo3] at oo
  have OZ := Lib.hid oo
  clear oo hlo3 b3 X1 X2 HB
  have NOP : Hid (OwnI (w3.setCell ⟨w.heap.size, 2, none⟩ (.slice Z1 m cm1)) lo1 hi1 P1 g cg1 D.par) := Lib.hid (OP.out.offB (b := w.heap.size) (by omega) (fun j hj => puts_ne (g := w.heap.size) [(2, .slice Z1 m cm1)] w3 hj))
  have NOA : Hid (OwnV (w3.setCell ⟨w.heap.size, 2, none⟩ (.slice Z1 m cm1)) lo2 hi2 A1 n c1 D.vs) := Lib.hid (OA.out.offB (b := w.heap.size) (by omega) (fun j hj => puts_ne (g := w.heap.size) [(2, .slice Z1 m cm1)] w3 hj))
  have NOZ : Hid (DRc (w3.setCell ⟨w.heap.size, 2, none⟩ (.slice Z1 m cm1)) lo3 Z1 m cm1 D.rs) := Lib.hid (OZ.out.off X1a.out (by decide) (by decide) (fun j hj => puts_ne (g := w.heap.size) [(2, .slice Z1 m cm1)] w3 hj) (puts_size (g := w.heap.size) [(2, .slice Z1 m cm1)] w3))
  have X1 : Hid ((w3.setCell ⟨w.heap.size, 2, none⟩ (.slice Z1 m cm1)).heap[w.heap.size]? = some (.cells #[.slice P1 g cg1, .slice A1 n c1, .slice Z1 m cm1, .slice Y p cp, .int .i64 D.cost.a, .int .i64 D.cost.b, .int .i64 D.cost.c, .int .i64 D.cost.d, .int .i64 D.bud.a, .int .i64 D.bud.b, .int .i64 D.bud.c, .int .i64 D.bud.d, .int .i64 D.floor, .slice Q q cq] 44 (0, 0))) := Lib.hid (box_set X1a.out 2 _)
  have X2 : Hid ((w3.setCell ⟨w.heap.size, 2, none⟩ (.slice Z1 m cm1)).heap[w.heap.size + 1]? = some (.cells #[.slice none 0 0, .slice none 0 0, .slice none 0 0, .slice none 0 0, .int .i64 0, .int .i64 0, .int .i64 0, .int .i64 0, .int .i64 0, .int .i64 0, .int .i64 0, .int .i64 0, .int .i64 0, .slice none 0 0] 44 (0, 0))) := Lib.hid ((puts_ne (g := w.heap.size) [(2, .slice Z1 m cm1)] w3 (by omega)).trans X2a.out)
  have HB : Hid (Below w.heap.size w (w3.setCell ⟨w.heap.size, 2, none⟩ (.slice Z1 m cm1))) := Lib.hid (puts_below (g := w.heap.size) [(2, .slice Z1 m cm1)] w3 HBa.out (Nat.le_refl _))
  have hz3 : (w3.setCell ⟨w.heap.size, 2, none⟩ (.slice Z1 m cm1)).heap.size = w3.heap.size := puts_size (g := w.heap.size) [(2, .slice Z1 m cm1)] w3
  have hs3 : w.heap.size + 1 + 1 ≤ (w3.setCell ⟨w.heap.size, 2, none⟩ (.slice Z1 m cm1)).heap.size := by omega
  have pa := bxc X1a.out 2 _ rfl
  have fa := bxf X1a.out 2
  have la := lt_of_block X1a.out
  have lb := lt_of_block X1.out
  clear X1a X2a HBa hz3 OP OA OZ
  have c2 := bxc X1.out 3 _ rfl
  go_wp2_with fail
  clear pa fa la lb c2
  generalize (w3.setCell ⟨w.heap.size, 2, none⟩ (.slice Z1 m cm1)) = u3 at *
  have OP := NOP
  clear NOP
  have OA := NOA
  clear NOA
  have OZ := NOZ
  clear NOZ
  refine (copyTables_any Y p cp D.plan _ (hV.plan.below HB.out)).mono ?_
  rintro e w4 ⟨Y1, cp1, rfl, oo, b4⟩
  have z4 := b4.size
  replace OP := Lib.hid (OP.out.below b4)
  replace OA := Lib.hid (OA.out.below b4)
  replace OZ := Lib.hid (OZ.out.below b4)
  have X1a := Lib.hid (bxb X1.out b4)
  have X2a := Lib.hid (bxb X2.out b4)
  have HBa := Lib.hid (HB.out.trans (b4.mono HB.out.size))
  obtain ⟨lo4, hlo4, hlb4⟩ : ∃ lo, lo = u3.heap.size ∧ w.heap.size + 1 < lo := ⟨_, rfl, by omega⟩
  rw [← hlo4] at oo
  have OY := Lib.hid oo
  clear oo hlo4 b4 X1 X2 HB
  have NOP : Hid (OwnI (w4.setCell ⟨w.heap.size, 3, none⟩ (.slice Y1 p cp1)) lo1 hi1 P1 g cg1 D.par) := Lib.hid (OP.out.offB (b := w.heap.size) (by omega) (fun j hj => puts_ne (g := w.heap.size) [(3, .slice Y1 p cp1)] w4 hj))
  have NOA : Hid (OwnV (w4.setCell ⟨w.heap.size, 3, none⟩ (.slice Y1 p cp1)) lo2 hi2 A1 n c1 D.vs) := Lib.hid (OA.out.offB (b := w.heap.size) (by omega) (fun j hj => puts_ne (g := w.heap.size) [(3, .slice Y1 p cp1)] w4 hj))
  have NOZ : Hid (DRc (w4.setCell ⟨w.heap.size, 3, none⟩ (.slice Y1 p cp1)) lo3 Z1 m cm1 D.rs) := Lib.hid (OZ.out.off X1a.out (by decide) (by decide) (fun j hj => puts_ne (g := w.heap.size) [(3, .slice Y1 p cp1)] w4 hj) (puts_size (g := w.heap.size) [(3, .slice Y1 p cp1)] w4))
  have NOY : Hid (DTl (w4.setCell ⟨w.heap.size, 3, none⟩ (.slice Y1 p cp1)) lo4 Y1 p cp1 D.plan) := Lib.hid (OY.out.off X1a.out (by decide) (by decide) (fun j hj => puts_ne (g := w.heap.size) [(3, .slice Y1 p cp1)] w4 hj) (puts_size (g := w.heap.size) [(3, .slice Y1 p cp1)] w4))
  have X1 : Hid ((w4.setCell ⟨w.heap.size, 3, none⟩ (.slice Y1 p cp1)).heap[w.heap.size]? = some (.cells #[.slice P1 g cg1, .slice A1 n c1, .slice Z1 m cm1, .slice Y1 p cp1, .int .i64 D.cost.a, .int .i64 D.cost.b, .int .i64 D.cost.c, .int .i64 D.cost.d, .int .i64 D.bud.a, .int .i64 D.bud.b, .int .i64 D.bud.c, .int .i64 D.bud.d, .int .i64 D.floor, .slice Q q cq] 44 (0, 0))) := Lib.hid (box_set X1a.out 3 _)
  have X2 : Hid ((w4.setCell ⟨w.heap.size, 3, none⟩ (.slice Y1 p cp1)).heap[w.heap.size + 1]? = some (.cells #[.slice none 0 0, .slice none 0 0, .slice none 0 0, .slice none 0 0, .int .i64 0, .int .i64 0, .int .i64 0, .int .i64 0, .int .i64 0, .int .i64 0, .int .i64 0, .int .i64 0, .int .i64 0, .slice none 0 0] 44 (0, 0))) := Lib.hid ((puts_ne (g := w.heap.size) [(3, .slice Y1 p cp1)] w4 (by omega)).trans X2a.out)
  have HB : Hid (Below w.heap.size w (w4.setCell ⟨w.heap.size, 3, none⟩ (.slice Y1 p cp1))) := Lib.hid (puts_below (g := w.heap.size) [(3, .slice Y1 p cp1)] w4 HBa.out (Nat.le_refl _))
  have hz4 : (w4.setCell ⟨w.heap.size, 3, none⟩ (.slice Y1 p cp1)).heap.size = w4.heap.size := puts_size (g := w.heap.size) [(3, .slice Y1 p cp1)] w4
  have hs4 : w.heap.size + 1 + 1 ≤ (w4.setCell ⟨w.heap.size, 3, none⟩ (.slice Y1 p cp1)).heap.size := by omega
  have pa := bxc X1a.out 3 _ rfl
  have fa := bxf X1a.out 3
  have la := lt_of_block X1a.out
  have lb := lt_of_block X1.out
  clear X1a X2a HBa hz4 OP OA OZ OY
  have c2 := bxc X1.out 13 _ rfl
  go_wp2_with fail
  clear pa fa la lb c2
  generalize (w4.setCell ⟨w.heap.size, 3, none⟩ (.slice Y1 p cp1)) = u4 at *
  have OP := NOP
  clear NOP
  have OA := NOA
  clear NOA
  have OZ := NOZ
  clear NOZ
  have OY := NOY
  clear NOY
  refine (copyTables_any Q q cq D.asked _ (hV.asked.below HB.out)).mono ?_
  rintro e w5 ⟨Q1, cq1, rfl, oo, b5⟩
  have z5 := b5.size
  replace OP := Lib.hid (OP.out.below b5)
  replace OA := Lib.hid (OA.out.below b5)
  replace OZ := Lib.hid (OZ.out.below b5)
  replace OY := Lib.hid (OY.out.below b5)
  have X1a := Lib.hid (bxb X1.out b5)
  have X2a := Lib.hid (bxb X2.out b5)
  have HBa := Lib.hid (HB.out.trans (b5.mono HB.out.size))
  obtain ⟨lo5, hlo5, hlb5⟩ : ∃ lo, lo = u4.heap.size ∧ w.heap.size + 1 < lo := ⟨_, rfl, by omega⟩
  rw [← hlo5] at oo
  have OQ := Lib.hid oo
  clear oo hlo5 b5 X1 X2 HB
  have NOP : Hid (OwnI (w5.setCell ⟨w.heap.size, 13, none⟩ (.slice Q1 q cq1)) lo1 hi1 P1 g cg1 D.par) := Lib.hid (OP.out.offB (b := w.heap.size) (by omega) (fun j hj => puts_ne (g := w.heap.size) [(13, .slice Q1 q cq1)] w5 hj))
  have NOA : Hid (OwnV (w5.setCell ⟨w.heap.size, 13, none⟩ (.slice Q1 q cq1)) lo2 hi2 A1 n c1 D.vs) := Lib.hid (OA.out.offB (b := w.heap.size) (by omega) (fun j hj => puts_ne (g := w.heap.size) [(13, .slice Q1 q cq1)] w5 hj))
  have NOZ : Hid (DRc (w5.setCell ⟨w.heap.size, 13, none⟩ (.slice Q1 q cq1)) lo3 Z1 m cm1 D.rs) := Lib.hid (OZ.out.off X1a.out (by decide) (by decide) (fun j hj => puts_ne (g := w.heap.size) [(13, .slice Q1 q cq1)] w5 hj) (puts_size (g := w.heap.size) [(13, .slice Q1 q cq1)] w5))
  have NOY : Hid (DTl (w5.setCell ⟨w.heap.size, 13, none⟩ (.slice Q1 q cq1)) lo4 Y1 p cp1 D.plan) := Lib.hid (OY.out.off X1a.out (by decide) (by decide) (fun j hj => puts_ne (g := w.heap.size) [(13, .slice Q1 q cq1)] w5 hj) (puts_size (g := w.heap.size) [(13, .slice Q1 q cq1)] w5))
  have NOQ : Hid (DTl (w5.setCell ⟨w.heap.size, 13, none⟩ (.slice Q1 q cq1)) lo5 Q1 q cq1 D.asked) := Lib.hid (OQ.out.off X1a.out (by decide) (by decide) (fun j hj => puts_ne (g := w.heap.size) [(13, .slice Q1 q cq1)] w5 hj) (puts_size (g := w.heap.size) [(13, .slice Q1 q cq1)] w5))
  have X1 : Hid ((w5.setCell ⟨w.heap.size, 13, none⟩ (.slice Q1 q cq1)).heap[w.heap.size]? = some (.cells #[.slice P1 g cg1, .slice A1 n c1, .slice Z1 m cm1, .slice Y1 p cp1, .int .i64 D.cost.a, .int .i64 D.cost.b, .int .i64 D.cost.c, .int .i64 D.cost.d, .int .i64 D.bud.a, .int .i64 D.bud.b, .int .i64 D.bud.c, .int .i64 D.bud.d, .int .i64 D.floor, .slice Q1 q cq1] 44 (0, 0))) := Lib.hid (box_set X1a.out 13 _)
  have X2 : Hid ((w5.setCell ⟨w.heap.size, 13, none⟩ (.slice Q1 q cq1)).heap[w.heap.size + 1]? = some (.cells #[.slice none 0 0, .slice none 0 0, .slice none 0 0, .slice none 0 0, .int .i64 0, .int .i64 0, .int .i64 0, .int .i64 0, .int .i64 0, .int .i64 0, .int .i64 0, .int .i64 0, .int .i64 0, .slice none 0 0] 44 (0, 0))) := Lib.hid ((puts_ne (g := w.heap.size) [(13, .slice Q1 q cq1)] w5 (by omega)).trans X2a.out)
  have HB : Hid (Below w.heap.size w (w5.setCell ⟨w.heap.size, 13, none⟩ (.slice Q1 q cq1))) := Lib.hid (puts_below (g := w.heap.size) [(13, .slice Q1 q cq1)] w5 HBa.out (Nat.le_refl _))
  have hz5 : (w5.setCell ⟨w.heap.size, 13, none⟩ (.slice Q1 q cq1)).heap.size = w5.heap.size := puts_size (g := w.heap.size) [(13, .slice Q1 q cq1)] w5
  have hs5 : w.heap.size + 1 + 1 ≤ (w5.setCell ⟨w.heap.size, 13, none⟩ (.slice Q1 q cq1)).heap.size := by omega
  have pa := bxc X1a.out 13 _ rfl
  have fa := bxf X1a.out 13
  have la := lt_of_block X1a.out
  have lb := lt_of_block X1.out
  clear X1a X2a HBa hz5 OP OA OZ OY OQ
  have i0 := bxc X1.out 0 (.slice P1 g cg1) rfl
  have p0 := bxc X2.out 0 _ rfl
  have g0 := bxf X2.out 0
  have i1 := bxc X1.out 1 (.slice A1 n c1) rfl
  have p1 := bxc X2.out 1 _ rfl
  have g1 := bxf X2.out 1
  have i2 := bxc X1.out 2 (.slice Z1 m cm1) rfl
  have p2 := bxc X2.out 2 _ rfl
  have g2 := bxf X2.out 2
  have i3 := bxc X1.out 3 (.slice Y1 p cp1) rfl
  have p3 := bxc X2.out 3 _ rfl
  have g3 := bxf X2.out 3
  have i4 := bxc X1.out 4 (.int .i64 D.cost.a) rfl
  have p4 := bxc X2.out 4 _ rfl
  have g4 := bxf X2.out 4
  have i5 := bxc X1.out 5 (.int .i64 D.cost.b) rfl
  have p5 := bxc X2.out 5 _ rfl
  have g5 := bxf X2.out 5
  have i6 := bxc X1.out 6 (.int .i64 D.cost.c) rfl
  have p6 := bxc X2.out 6 _ rfl
  have g6 := bxf X2.out 6
  have i7 := bxc X1.out 7 (.int .i64 D.cost.d) rfl
  have p7 := bxc X2.out 7 _ rfl
  have g7 := bxf X2.out 7
  have i8 := bxc X1.out 8 (.int .i64 D.bud.a) rfl
  have p8 := bxc X2.out 8 _ rfl
  have g8 := bxf X2.out 8
  have i9 := bxc X1.out 9 (.int .i64 D.bud.b) rfl
  have p9 := bxc X2.out 9 _ rfl
  have g9 := bxf X2.out 9
  have i10 := bxc X1.out 10 (.int .i64 D.bud.c) rfl
  have p10 := bxc X2.out 10 _ rfl
  have g10 := bxf X2.out 10
  have i11 := bxc X1.out 11 (.int .i64 D.bud.d) rfl
  have p11 := bxc X2.out 11 _ rfl
  have g11 := bxf X2.out 11
  have i12 := bxc X1.out 12 (.int .i64 D.floor) rfl
  have p12 := bxc X2.out 12 _ rfl
  have g12 := bxf X2.out 12
  have i13 := bxc X1.out 13 (.slice Q1 q cq1) rfl
  have p13 := bxc X2.out 13 _ rfl
  have g13 := bxf X2.out 13
  have ly := lt_of_block X2.out
  have RX := Lib.hid (fill14n (y0 := .slice P1 g cg1) (y1 := .slice A1 n c1) (y2 := .slice Z1 m cm1) (y3 := .slice Y1 p cp1) (y4 := .int .i64 D.cost.a) (y5 := .int .i64 D.cost.b) (y6 := .int .i64 D.cost.c) (y7 := .int .i64 D.cost.d) (y8 := .int .i64 D.bud.a) (y9 := .int .i64 D.bud.b) (y10 := .int .i64 D.bud.c) (y11 := .int .i64 D.bud.d) (y12 := .int .i64 D.floor) (y13 := .slice Q1 q cq1) X2.out)
  have r0 := bxc RX.out 0 (.slice P1 g cg1) rfl
  have r1 := bxc RX.out 1 (.slice A1 n c1) rfl
  have r2 := bxc RX.out 2 (.slice Z1 m cm1) rfl
  have r3 := bxc RX.out 3 (.slice Y1 p cp1) rfl
  have r4 := bxc RX.out 4 (.int .i64 D.cost.a) rfl
  have r5 := bxc RX.out 5 (.int .i64 D.cost.b) rfl
  have r6 := bxc RX.out 6 (.int .i64 D.cost.c) rfl
  have r7 := bxc RX.out 7 (.int .i64 D.cost.d) rfl
  have r8 := bxc RX.out 8 (.int .i64 D.bud.a) rfl
  have r9 := bxc RX.out 9 (.int .i64 D.bud.b) rfl
  have r10 := bxc RX.out 10 (.int .i64 D.bud.c) rfl
  have r11 := bxc RX.out 11 (.int .i64 D.bud.d) rfl
  have r12 := bxc RX.out 12 (.int .i64 D.floor) rfl
  have r13 := bxc RX.out 13 (.slice Q1 q cq1) rfl
  have FP := NOP.out.offB (b := w.heap.size + 1) (by omega) (fun j hj => puts_ne (g := w.heap.size + 1) [(0, .slice P1 g cg1), (1, .slice A1 n c1), (2, .slice Z1 m cm1), (3, .slice Y1 p cp1), (4, .int .i64 D.cost.a), (5, .int .i64 D.cost.b), (6, .int .i64 D.cost.c), (7, .int .i64 D.cost.d), (8, .int .i64 D.bud.a), (9, .int .i64 D.bud.b), (10, .int .i64 D.bud.c), (11, .int .i64 D.bud.d), (12, .int .i64 D.floor), (13, .slice Q1 q cq1)] (w5.setCell ⟨w.heap.size, 13, none⟩ (.slice Q1 q cq1)) hj)
  have FA := NOA.out.offB (b := w.heap.size + 1) (by omega) (fun j hj => puts_ne (g := w.heap.size + 1) [(0, .slice P1 g cg1), (1, .slice A1 n c1), (2, .slice Z1 m cm1), (3, .slice Y1 p cp1), (4, .int .i64 D.cost.a), (5, .int .i64 D.cost.b), (6, .int .i64 D.cost.c), (7, .int .i64 D.cost.d), (8, .int .i64 D.bud.a), (9, .int .i64 D.bud.b), (10, .int .i64 D.bud.c), (11, .int .i64 D.bud.d), (12, .int .i64 D.floor), (13, .slice Q1 q cq1)] (w5.setCell ⟨w.heap.size, 13, none⟩ (.slice Q1 q cq1)) hj)
  have FZ := NOZ.out.off X2.out (by decide) (by decide) (fun j hj => puts_ne (g := w.heap.size + 1) [(0, .slice P1 g cg1), (1, .slice A1 n c1), (2, .slice Z1 m cm1), (3, .slice Y1 p cp1), (4, .int .i64 D.cost.a), (5, .int .i64 D.cost.b), (6, .int .i64 D.cost.c), (7, .int .i64 D.cost.d), (8, .int .i64 D.bud.a), (9, .int .i64 D.bud.b), (10, .int .i64 D.bud.c), (11, .int .i64 D.bud.d), (12, .int .i64 D.floor), (13, .slice Q1 q cq1)] (w5.setCell ⟨w.heap.size, 13, none⟩ (.slice Q1 q cq1)) hj) (puts_size (g := w.heap.size + 1) [(0, .slice P1 g cg1), (1, .slice A1 n c1), (2, .slice Z1 m cm1), (3, .slice Y1 p cp1), (4, .int .i64 D.cost.a), (5, .int .i64 D.cost.b), (6, .int .i64 D.cost.c), (7, .int .i64 D.cost.d), (8, .int .i64 D.bud.a), (9, .int .i64 D.bud.b), (10, .int .i64 D.bud.c), (11, .int .i64 D.bud.d), (12, .int .i64 D.floor), (13, .slice Q1 q cq1)] (w5.setCell ⟨w.heap.size, 13, none⟩ (.slice Q1 q cq1)))
  have FY := NOY.out.off X2.out (by decide) (by decide) (fun j hj => puts_ne (g := w.heap.size + 1) [(0, .slice P1 g cg1), (1, .slice A1 n c1), (2, .slice Z1 m cm1), (3, .slice Y1 p cp1), (4, .int .i64 D.cost.a), (5, .int .i64 D.cost.b), (6, .int .i64 D.cost.c), (7, .int .i64 D.cost.d), (8, .int .i64 D.bud.a), (9, .int .i64 D.bud.b), (10, .int .i64 D.bud.c), (11, .int .i64 D.bud.d), (12, .int .i64 D.floor), (13, .slice Q1 q cq1)] (w5.setCell ⟨w.heap.size, 13, none⟩ (.slice Q1 q cq1)) hj) (puts_size (g := w.heap.size + 1) [(0, .slice P1 g cg1), (1, .slice A1 n c1), (2, .slice Z1 m cm1), (3, .slice Y1 p cp1), (4, .int .i64 D.cost.a), (5, .int .i64 D.cost.b), (6, .int .i64 D.cost.c), (7, .int .i64 D.cost.d), (8, .int .i64 D.bud.a), (9, .int .i64 D.bud.b), (10, .int .i64 D.bud.c), (11, .int .i64 D.bud.d), (12, .int .i64 D.floor), (13, .slice Q1 q cq1)] (w5.setCell ⟨w.heap.size, 13, none⟩ (.slice Q1 q cq1)))
  have FQ := NOQ.out.off X2.out (by decide) (by decide) (fun j hj => puts_ne (g := w.heap.size + 1) [(0, .slice P1 g cg1), (1, .slice A1 n c1), (2, .slice Z1 m cm1), (3, .slice Y1 p cp1), (4, .int .i64 D.cost.a), (5, .int .i64 D.cost.b), (6, .int .i64 D.cost.c), (7, .int .i64 D.cost.d), (8, .int .i64 D.bud.a), (9, .int .i64 D.bud.b), (10, .int .i64 D.bud.c), (11, .int .i64 D.bud.d), (12, .int .i64 D.floor), (13, .slice Q1 q cq1)] (w5.setCell ⟨w.heap.size, 13, none⟩ (.slice Q1 q cq1)) hj) (puts_size (g := w.heap.size + 1) [(0, .slice P1 g cg1), (1, .slice A1 n c1), (2, .slice Z1 m cm1), (3, .slice Y1 p cp1), (4, .int .i64 D.cost.a), (5, .int .i64 D.cost.b), (6, .int .i64 D.cost.c), (7, .int .i64 D.cost.d), (8, .int .i64 D.bud.a), (9, .int .i64 D.bud.b), (10, .int .i64 D.bud.c), (11, .int .i64 D.bud.d), (12, .int .i64 D.floor), (13, .slice Q1 q cq1)] (w5.setCell ⟨w.heap.size, 13, none⟩ (.slice Q1 q cq1)))
  have FB := puts_below (g := w.heap.size + 1) [(0, .slice P1 g cg1), (1, .slice A1 n c1), (2, .slice Z1 m cm1), (3, .slice Y1 p cp1), (4, .int .i64 D.cost.a), (5, .int .i64 D.cost.b), (6, .int .i64 D.cost.c), (7, .int .i64 D.cost.d), (8, .int .i64 D.bud.a), (9, .int .i64 D.bud.b), (10, .int .i64 D.bud.c), (11, .int .i64 D.bud.d), (12, .int .i64 D.floor), (13, .slice Q1 q cq1)] (w5.setCell ⟨w.heap.size, 13, none⟩ (.slice Q1 q cq1)) HB.out (by omega)
  have FIN := Lib.hid (show CSv w g n m p q D (.returned (.agg #[.slice P1 g cg1, .slice A1 n c1, .slice Z1 m cm1, .slice Y1 p cp1, .int .i64 D.cost.a, .int .i64 D.cost.b, .int .i64 D.cost.c, .int .i64 D.cost.d, .int .i64 D.bud.a, .int .i64 D.bud.b, .int .i64 D.bud.c, .int .i64 D.bud.d, .int .i64 D.floor, .slice Q1 q cq1])) (puts (w5.setCell ⟨w.heap.size, 13, none⟩ (.slice Q1 q cq1)) (w.heap.size + 1) [(0, .slice P1 g cg1), (1, .slice A1 n c1), (2, .slice Z1 m cm1), (3, .slice Y1 p cp1), (4, .int .i64 D.cost.a), (5, .int .i64 D.cost.b), (6, .int .i64 D.cost.c), (7, .int .i64 D.cost.d), (8, .int .i64 D.bud.a), (9, .int .i64 D.bud.b), (10, .int .i64 D.bud.c), (11, .int .i64 D.bud.d), (12, .int .i64 D.floor), (13, .slice Q1 q cq1)]) from ⟨P1, A1, Z1, Y1, Q1, cg1, c1, cm1, cp1, cq1, rfl, ⟨⟨_, _, FP⟩, ⟨_, _, FA⟩, ⟨_, FZ⟩, ⟨_, FY⟩, hc1, hV.sur.s.s, hV.sur.s.bd, hV.sur.d.bd, hV.plan.bd⟩, FQ.mono (by omega), FB⟩)
  clear NOP NOA NOZ NOY NOQ FP FA FZ FY FQ FB X1 X2 HB RX hV
  go_wp2
  exact bodyPost_ret (v := .agg #[.slice P1 g cg1, .slice A1 n c1, .slice Z1 m cm1, .slice Y1 p cp1, .int .i64 D.cost.a, .int .i64 D.cost.b, .int .i64 D.cost.c, .int .i64 D.cost.d, .int .i64 D.bud.a, .int .i64 D.bud.b, .int .i64 D.bud.c, .int .i64 D.bud.d, .int .i64 D.floor, .slice Q1 q cq1]) (by simp [results, Tryz.results92, go_sem, r0, r1, r2, r3, r4, r5, r6, r7, r8, r9, r10, r11, r12, r13]) rfl FIN.out
end

section
open Go.RowKit

/-- A server behind a query. -/
def askD (D : SvD) (t : TabD) : SvD := { D with asked := askedV D t }
theorem askD_gap (D : SvD) (t : TabD) (ts : List TabD) (u : TabD) (k : Nat) : gapN (askD D t) ts u k = gapN D ts u k := by
  induction k with
  | zero => rfl
  | succ k ih => rw [gapN, gapN, ih]; rfl
theorem askD_code (D : SvD) (t : TabD) (ts : List TabD) (u : TabD) : codeV (askD D t) ts u = codeV D ts u := by
  have h : gapV (askD D t) ts u = gapV D ts u := askD_gap D t ts u _
  unfold codeV
  rw [h]
  rfl
theorem ask_take {us : List TabD} {t : TabD} {i : Nat} (h : i ≤ us.length) : (us ++ [t]).take i = us.take i := by
  rw [List.take_append_of_le_length h]
theorem askD_sv {D : SvD} (h : svB D = true) (t : TabD) : svB (askD D t) = true := by
  obtain ⟨h1, h2, h3, h5, h6, h8, h9⟩ := svB_parts h
  have h4 : D.plan.length ≤ 20 := by
    have h' := h
    unfold svB at h'
    simp only [Bool.and_eq_true, decide_eq_true_eq] at h'
    exact h'.2.2.2.1
  have h7 : inR D.floor 0 40 = true := by
    have h' := h
    unfold svB at h'
    simp only [Bool.and_eq_true, decide_eq_true_eq] at h'
    exact h'.2.2.2.2.2.2.1
  have h10 : allTo (askOk (askD D t)) (askedV D t).length = true := by
    by_cases c0 : codeV D D.asked t = 0
    · by_cases c1 : fndT D.asked t < 0
      · refine allTo_yes fun i hi => ?_
        have e : (askD D t).asked = D.asked ++ [t] := asked_2 c0 c1
        rw [asked_2 c0 c1, List.length_append, List.length_singleton] at hi
        unfold askOk
        rw [e, askD_code, ask_take (by omega)]
        rcases Nat.lt_or_ge i D.asked.length with h11 | h11
        · rw [tX_old h11]
          exact allTo_of h9 i h11
        · obtain rfl : i = D.asked.length := by omega
          rw [tX_new, List.take_length, decide_eq_true c1, c0]; rfl
      · have e : (askD D t).asked = D.asked := asked_3 c0 c1
        rw [asked_3 c0 c1]
        refine allTo_yes fun i hi => ?_
        unfold askOk
        rw [e, askD_code]
        exact allTo_of h9 i hi
    · have e : (askD D t).asked = D.asked := asked_1 c0
      rw [asked_1 c0]
      refine allTo_yes fun i hi => ?_
      unfold askOk
      rw [e, askD_code]
      exact allTo_of h9 i hi
  exact (sv_yes (D := askD D t) rfl rfl h1 h2 h3 h4 h5 h6 h7 h8 h10).symm
/-- Queries one after the other. -/
def askN (D : SvD) (l : List TabD) : Nat → SvD
  | 0 => D
  | k + 1 => askD (askN D l k) (tX l k)
theorem askN_sv {D : SvD} (h : svB D = true) (l : List TabD) (k : Nat) : svB (askN D l k) = true := by
  induction k with
  | zero => exact h
  | succ k ih => exact askD_sv ih _
/-- The same query again. -/
theorem fnd_new {us : List TabD} {t : TabD} : 0 ≤ fndT (us ++ [t]) t := by
  unfold fndT
  have h : fndN (us ++ [t]) t < (us ++ [t]).length := by
    unfold fndN
    refine List.findIdx_lt_length_of_exists ⟨t, by simp, ?_⟩
    unfold sameT
    simp
  rw [if_pos h]
  omega
theorem ask_again {D : SvD} {t : TabD} (h0 : codeV D D.asked t = 0) : codeV (askD D t) (askD D t).asked t = 0 ∧ askD (askD D t) t = askD D t := by
  have h1 : 0 ≤ fndT (askD D t).asked t := by
    by_cases c1 : fndT D.asked t < 0
    · rw [show (askD D t).asked = D.asked ++ [t] from asked_2 h0 c1]; exact fnd_new
    · rw [show (askD D t).asked = D.asked from asked_3 h0 c1]; omega
  have h2 : codeV (askD D t) (askD D t).asked t = 0 := by
    rw [askD_code]
    refine codeV_3 (code0_tab h0) ?_ h1
    exact Int.not_lt.1 fun h3 => code_plan h3 h0
  refine ⟨h2, ?_⟩
  have h3 : askedV (askD D t) t = (askD D t).asked := asked_3 h2 (by omega)
  show ({ askD D t with asked := askedV (askD D t) t } : SvD) = askD D t
  rw [h3]
theorem ask_refused {D : SvD} {t : TabD} (h0 : ¬ codeV D D.asked t = 0) : askD D t = D := by
  show ({ D with asked := askedV D t } : SvD) = D
  rw [asked_1 h0]

/-- Losses stay losses. -/
theorem losB_of {x : LosD} (h : losB x = true) : (1 ≤ x.b ∧ x.b ≤ x.a) ∧ (1 ≤ x.d ∧ 0 ≤ x.c) := by
  have h1 := losB_ok h
  have h2 := fracB_of h1.f
  have h3 := fracB_of h1.g
  unfold losB at h
  simp only [Bool.and_eq_true, decide_eq_true_eq] at h
  exact ⟨⟨h2.1, h.2.2.1⟩, h3.1, h.2.2.2⟩
theorem losB_yes {x : LosD} (h : LosOk x) (h1 : x.b ≤ x.a) (h2 : 0 ≤ x.c) : losB x = true := by
  unfold losB
  rw [h.f, h.g, decide_eq_true h1, decide_eq_true h2]; rfl
theorem two_los {x y z : LosD} (hx : losB x = true) (hy : losB y = true) (h : twoO x y = some z) : losB z = true := by
  have hz := twoO_ok h
  obtain ⟨⟨x1, x2⟩, x3, x4⟩ := losB_of hx
  obtain ⟨⟨y1, y2⟩, y3, y4⟩ := losB_of hy
  have z1 := fracB_of hz.f
  have z2 := fracB_of hz.g
  unfold twoO at h
  cases h1 : mulO x.a x.b y.a y.b with
  | none => rw [h1] at h; cases h
  | some r =>
    cases h2 : addO x.c x.d y.c y.d with
    | none => rw [h1, h2] at h; cases h
    | some s =>
      rw [h1, h2] at h
      simp only [Option.bind_some, Option.map_some, Option.some.injEq] at h
      subst h
      obtain ⟨r1, r2⟩ := r
      obtain ⟨s1, s2⟩ := s
      simp only at z1 z2 hz ⊢
      have e1 : r1 * (x.b * y.b) = (x.a * y.a) * r2 := redO_ratio h1
      have e2 : s1 * (x.d * y.d) = (x.c * y.d + y.c * x.d) * s2 := redO_ratio h2
      have p1 : 0 < x.b * y.b := Int.mul_pos (by omega) (by omega)
      have p2 : 0 < x.d * y.d := Int.mul_pos (by omega) (by omega)
      refine losB_yes hz ?_ ?_
      · show r2 ≤ r1
        have q1 : x.b * y.b ≤ x.a * y.a := Int.mul_le_mul x2 y2 (by omega) (by omega)
        have q2 : (x.b * y.b) * r2 ≤ (x.a * y.a) * r2 := Int.mul_le_mul_of_nonneg_right q1 (by omega)
        rw [← e1, Int.mul_comm (x.b * y.b) r2] at q2
        exact Int.le_of_mul_le_mul_right q2 p1
      · show 0 ≤ s1
        have q1 : 0 ≤ x.c * y.d := Int.mul_nonneg x4 (by omega)
        have q2 : 0 ≤ y.c * x.d := Int.mul_nonneg y4 (by omega)
        have q3 : 0 ≤ (x.c * y.d + y.c * x.d) * s2 := Int.mul_nonneg (by omega) (by omega)
        rw [← e2] at q3
        refine Int.not_lt.1 fun h3 => ?_
        have := Int.mul_neg_of_neg_of_pos h3 p2
        omega
theorem los1_los : losB los1 = true := by decide
theorem cost_los {x y : LosD} (hx : losB x = true) : ∀ {k : Nat}, costO x k = some y → losB y = true := by
  intro k
  induction k generalizing y with
  | zero => intro h; rw [costO] at h; cases h; exact los1_los
  | succ k ih =>
    intro h
    cases hk : costO x k with
    | none => rw [costO, hk] at h; cases h
    | some z => rw [costO_step hk] at h; exact two_los (ih hk) hx h
theorem code0_fits {D : SvD} {ts : List TabD} {t : TabD} (h : codeV D ts t = 0) (hk : fndT ts t < 0) : fitsB D.cost D.bud (ts.length + 1) = true := by
  unfold codeV at h
  by_cases e1 : tabB D.par D.vs t = false
  · rw [if_pos e1] at h; omega
  rw [if_neg e1] at h
  by_cases e2 : fndT D.plan t < 0
  · rw [if_pos e2] at h; omega
  rw [if_neg e2, if_neg (Int.not_le.2 hk)] at h
  by_cases e3 : fitsB D.cost D.bud (ts.length + 1) = false
  · rw [if_pos e3] at h; omega
  · simpa using e3
/-- A valid server's loss is within its budget. -/
theorem sv_loss {D : SvD} (h : svB D = true) : ∃ x, ansO D = some x ∧ losB x = true ∧ inLos D.bud x = true := by
  obtain ⟨_, _, _, h5, h6, _, h9⟩ := svB_parts h
  have e : ansO D = costO D.cost D.asked.length := by unfold ansO; rw [if_pos h]
  rw [e]
  by_cases h0 : D.asked.length = 0
  · rw [h0]
    obtain ⟨⟨b1, b2⟩, b3, b4⟩ := losB_of h6
    refine ⟨los1, rfl, los1_los, ?_⟩
    unfold inLos los1
    simp only [Bool.and_eq_true, decide_eq_true_eq]
    omega
  · obtain ⟨k, hk⟩ : ∃ k, D.asked.length = k + 1 := ⟨D.asked.length - 1, by omega⟩
    have h1 := allTo_of h9 k (by omega)
    have hc := askOk_code h1
    have hf : fndT (D.asked.take k) (tX D.asked k) < 0 := by
      unfold askOk at h1
      simp only [Bool.and_eq_true, decide_eq_true_eq] at h1
      exact h1.1
    have h2 := code0_fits hc hf
    rw [List.length_take, show min k D.asked.length = k by omega] at h2
    rw [hk]
    unfold fitsB at h2
    cases h3 : costO D.cost (k + 1) with
    | none => rw [h3] at h2; cases h2
    | some x => rw [h3] at h2; exact ⟨x, rfl, cost_los h5 h3, h2⟩
end
end Go.Proofs.YtfanpbfmnckmnaaGreat
