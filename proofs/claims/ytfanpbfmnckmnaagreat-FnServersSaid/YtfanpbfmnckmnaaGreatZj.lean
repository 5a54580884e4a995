/- Several small texts in one: DrG, DrR, DrS, DrV. -/
import Derived.Test.YtfanpbfmnckmnaaGreatZc
import Derived.Test.YtfanpbfmnckmnaaGreatZf
import Derived.Test.YtfanpbfmnckmnaaGreatYb
import Derived.Test.YtfanpbfmnckmnaaGreatZg
import Derived.Test.YtfanpbfmnckmnaaGreatRowG
import Derived.Test.YtfanpbfmnckmnaaGreatAppG
import Derived.Laws.BytesArg
namespace Go.Proofs.YtfanpbfmnckmnaaGreat

section
open Go.RowKit

theorem list_ofR {α : Type} {Q : Nat → α → Prop} : ∀ n : Nat, (∀ i, i < n → ∃ p, Q i p) → ∃ l : List α, l.length = n ∧ ∀ i, i < n → ∃ p, l[i]? = some p ∧ Q i p
  | 0, _ => ⟨[], rfl, fun i hi => absurd hi (by omega)⟩
  | n + 1, h => by
    obtain ⟨l, hl, hq⟩ := list_ofR n (fun i hi => h i (by omega))
    obtain ⟨p, hp⟩ := h n (by omega)
    refine ⟨l ++ [p], by simp [hl], fun i hi => ?_⟩
    rcases Nat.lt_or_ge i n with h1 | h1
    · obtain ⟨q, e, hq'⟩ := hq i h1
      exact ⟨q, by rw [List.getElem?_append_left (by omega)]; exact e, hq'⟩
    · obtain rfl : i = n := by omega
      exact ⟨p, by rw [List.getElem?_append_right (by omega), hl, Nat.sub_self]; rfl, hp⟩
theorem box_app2 {a b : World} {k : Nat} {o : Obj} {A : Option Addr} (h : a.heap[k]? = some o) (hg : a.grownBy b (rowOf A)) (hr : rowOf A ≠ some k) : b.heap[k]? = some o :=
  (hg.block k (lt_of_block h) (fun e => hr e.symm)).trans h
theorem row_ne2 {w : World} {B lo n c sz m d g : Nat} {T : TypeId} {V A : Option Addr} {xs : List Int} {ys : List Value} (ho : Own w B V m d xs) (h : w.ownsRow lo T sz (.slice A n c) n ys) (hT : T ≠ 3) (e1 : rowOf V = some g) : rowOf A ≠ some g := by
  intro e
  rcases h.2 with ⟨h0, _⟩ | ⟨g', cap, cur, hv, _⟩
  · injection h0 with h0; subst h0; cases e
  · injection hv with hv
    subst hv
    simp only [rowOf, Option.some.injEq] at e
    subst e
    exact row_ne ho h hT e1
theorem row_chg {w w' : World} {B n c sz g : Nat} {T : TypeId} {A : Option Addr} {ys : List Value} (h : w.ownsRow B T sz (.slice A n c) n ys) (hc : Chg g (g + 1) w w') (hg : g < B) : w'.ownsRow B T sz (.slice A n c) n ys :=
  row_keep h fun k hl _ hk => hc.block k hk (.inr (by omega))

/-- Drawn variables: short names, few levels. -/
def VsB (vs : List (ByteArray × Int)) : Prop := ∀ p, p ∈ vs → 0 ≤ p.2 ∧ p.2 ≤ 9 ∧ p.1.size ≤ 16
theorem VsB.nil_ : VsB [] := fun p h => by cases h
theorem VsB.snoc {vs : List (ByteArray × Int)} {s : ByteArray} {x : Int} (h : VsB vs) (h0 : 0 ≤ x) (h1 : x ≤ 9) (h2 : s.size ≤ 16) : VsB (vs ++ [(s, x)]) := fun p hp => by
  rcases List.mem_append.1 hp with hp | hp
  · exact h p hp
  · simp only [List.mem_singleton] at hp; subst hp; exact ⟨h0, h1, h2⟩
theorem VsB.at_ {vs : List (ByteArray × Int)} (h : VsB vs) {j : Nat} (hj : j < vs.length) : 0 ≤ vL vs j ∧ vL vs j ≤ 9 ∧ (vN vs j).size ≤ 16 := by
  unfold vL vN
  rw [List.getElem?_eq_getElem hj, Option.getD_some]
  exact h _ (List.getElem_mem hj)
/-- A drawn row of variables. -/
structure DVr (w : World) (lo : Nat) (A : Option Addr) (n c : Nat) (vs : List (ByteArray × Int)) : Prop where
  own : w.ownsRow lo 133 2 (.slice A n c) n (vcells vs)
  bd : VsB vs
section
variable {w w' : World} {A : Option Addr} {n c lo : Nat} {vs : List (ByteArray × Int)}
theorem DVr.nil_ {w : World} {lo : Nat} : DVr w lo none 0 0 [] := ⟨World.ownsRow_nil _ _ _ _, VsB.nil_⟩
theorem DVr.chg {g : Nat} (h : DVr w lo A n c vs) (hc : Chg g (g + 1) w w') (hg : g < lo) : DVr w' lo A n c vs := ⟨row_chg h.own hc hg, h.bd⟩
theorem DVr.below (h : DVr w lo A n c vs) (hb : Below w.heap.size w w') : DVr w' lo A n c vs := ⟨row_below h.own hb, h.bd⟩
theorem DVr.mono {lo' : Nat} (h : DVr w lo A n c vs) (hl : lo' ≤ lo) : DVr w lo' A n c vs := ⟨⟨h.own.1, by
  rcases h.own.2 with h0 | ⟨g, cap, cur, hv, hb, hr⟩
  · exact .inl h0
  · exact .inr ⟨g, cap, cur, hv, by omega, hr⟩⟩, h.bd⟩
theorem DVr.len (h : DVr w lo A n c vs) : vs.length = n := by have h1 := h.own.1; rw [vcells_len] at h1; omega
theorem DVr.ownV (h : DVr w lo A n c vs) (hn : n ≤ 1000) : OwnV w lo w.heap.size A n c vs := ⟨h.own, fun k hk => (row_ge h.own k hk).2, by omega⟩
theorem DVr.vars (h : DVr w lo A n c vs) (hn : n ≤ 1000) : VarsR w A n vs := (h.ownV hn).vars
theorem DVr.sch (h : DVr w lo A n c vs) (hn : n ≤ 1000) : SchR w A n c vs := by
  refine ⟨h.vars hn, fun j hj => ?_, by omega, ?_⟩
  · have := (h.bd.at_ (j := j) (by rw [h.len]; exact hj)).2.2; omega
  · rcases h.own.2 with ⟨hv, h0⟩ | ⟨g, cap, cur, hv, _, _, hc, _⟩
    · injection hv with _ _ hc; omega
    · injection hv with _ _ hc'; omega
end

/-- A drawn row of records: the values are rows of the call's own. -/
structure DRs (w : World) (lo : Nat) (A : Option Addr) (n c : Nat) : Prop where
  cells : ∃ ys, w.ownsRow lo 135 3 (.slice A n c) n ys ∧ ∀ j, j < n → ∃ (x y : Int) (V : Option Addr) (m cv : Nat) (xs : List Int), ys[j * 3]? = some (.int .i64 x) ∧ ys[j * 3 + 1]? = some (.int .i64 y) ∧ ys[j * 3 + 2]? = some (.slice V m cv) ∧ OwnI w lo w.heap.size V m cv xs ∧ m ≤ 1000
section
variable {w w' : World} {A : Option Addr} {n c lo : Nat}
theorem DRs.nil_ {w : World} {lo : Nat} : DRs w lo none 0 0 := ⟨⟨[], World.ownsRow_nil _ _ _ _, fun j hj => absurd hj (by omega)⟩⟩
theorem OwnI.chgT {V : Option Addr} {m cv g : Nat} {xs : List Int} (h : OwnI w lo w.heap.size V m cv xs) (hc : Chg g (g + 1) w w') (hg : g < lo) : OwnI w' lo w'.heap.size V m cv xs := by
  have h2 := h.chg hc (.inr (by omega))
  exact ⟨h2.own, fun k hk => Nat.lt_of_lt_of_le (h.top k hk) hc.size, h.small⟩
theorem DRs.below (h : DRs w lo A n c) (hb : Below w.heap.size w w') : DRs w' lo A n c := by
  obtain ⟨ys, h1, h2⟩ := h.cells
  refine ⟨⟨ys, row_below h1 hb, fun j hj => ?_⟩⟩
  obtain ⟨x, y, V, m, cv, xs, e0, e1, e2, hv, hm⟩ := h2 j hj
  exact ⟨x, y, V, m, cv, xs, e0, e1, e2, ⟨(hv.below hb).own, fun k hk => Nat.lt_of_lt_of_le (hv.top k hk) hb.size, hv.small⟩, hm⟩
theorem DRs.mono {lo' : Nat} (h : DRs w lo A n c) (hl : lo' ≤ lo) : DRs w lo' A n c := by
  obtain ⟨ys, h1, h2⟩ := h.cells
  refine ⟨⟨ys, row_mono h1 hl, fun j hj => ?_⟩⟩
  obtain ⟨x, y, V, m, cv, xs, e0, e1, e2, hv, hm⟩ := h2 j hj
  exact ⟨x, y, V, m, cv, xs, e0, e1, e2, ⟨hv.own.mono hl, hv.top, hv.small⟩, hm⟩
theorem DRs.recs (h : DRs w lo A n c) (hn : n ≤ 1000) : ∃ rs, DatR w A n rs := by
  obtain ⟨ys, ho, h2⟩ := h.cells
  obtain ⟨zs, hzl, hz⟩ := list_ofR (α := RecD) (Q := fun j p => ys[j * 3]? = some (.int .i64 p.area) ∧ ys[j * 3 + 1]? = some (.int .i64 p.house) ∧ (∃ V m cv, ys[j * 3 + 2]? = some (.slice V m cv) ∧ OwnI w lo w.heap.size V m cv p.vals ∧ m ≤ 1000)) n (fun j hj => by
    obtain ⟨x, y, V, m, cv, xs, e0, e1, e2, hv, hm⟩ := h2 j hj
    exact ⟨⟨x, y, xs⟩, e0, e1, V, m, cv, e2, hv, hm⟩)
  refine ⟨zs, ⟨hzl, fun hn0 => ?_⟩, fun j hj => ?_, by omega⟩
  · obtain ⟨g, rfl, _, _⟩ := row_head ho hn0
    have hl := ho.1
    refine ⟨_, rfl, fun j hj => ?_⟩
    obtain ⟨p, e, h0, h1, V, m, cv, h3, hv, _⟩ := hz j hj
    rw [addr_add0]
    simp only [rA, rH, rV, rX, e, Option.getD_some]
    exact ⟨(World.ownsRow.cellAt ho (j * 3) (by omega)).trans h0, (World.ownsRow.cellAt ho (j * 3 + 1) (by omega)).trans h1, V, m, cv, (World.ownsRow.cellAt ho (j * 3 + 2) (by omega)).trans h3, hv.ints⟩
  · obtain ⟨p, e, _, _, V, m, cv, _, hv, hm⟩ := hz j hj
    simp only [rV, rX, e, Option.getD_some]
    have := hv.ints.1
    omega
end
end

section
open Go.RowKit
end

section
open Go.RowKit

section
variable {w : World} {lo n c ga : Nat} {vs : List (ByteArray × Int)}
end
end

section
open Go.RowKit
end
end Go.Proofs.YtfanpbfmnckmnaaGreat
