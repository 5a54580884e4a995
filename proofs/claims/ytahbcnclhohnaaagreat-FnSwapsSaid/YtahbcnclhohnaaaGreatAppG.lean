/- Appending one element of whatever type, at a plain step and at a step that draws its order. -/
import Derived.Test.YtahbcnclhohnaaaGreatZa
import Derived.Deep.AppendLies
namespace Go.Proofs.YtahbcnclhohnaaaGreat
open Go.RowKit

section
variable {wr : World} {cs : Array Value} {T TS : TypeId} {i0 : TypeInfo} {z : Value} {sz bytes : Nat} {ops : Array Oper} {o : Oper} {a : Act} {Q : Exit → Act → World → Prop}
theorem step_appG {K : Act → World → Prop} {E : Prop} (hgd : o.guard = none) (s x : Operand)
    (ho : o.op = .call { callee := .builtin .append, args := #[s, x], argTypes := #[TS, TS] }) (hT : (Tryz.prog).underlying TS = some (.slice T)) (hi : (Tryz.prog).info? T = some i0) (hz : i0.zero = some z) (h1 : i0.size = sz) (h2 : i0.bytes = bytes) (h3 : z.cells.size = sz) (h4 : 0 < sz) (h5 : bytes ≤ 64)
    (hcs : cs.size = sz) (hone : ∀ u ∈ cs.toList, u.oneCell' = true)
    (B : Nat) (A : Option Addr) (n c : Nat) (ys : List Value) (hs : a.eval s = .slice A n c) (hown : wr.ownsRow B T sz (.slice A n c) n ys)
    (g : Nat) (hx : a.eval x = .slice (some ⟨g, 0, none⟩) 1 1) (hg : g = wr.heap.size) (hsz : n + 1 ≤ 1099511627776) (hB : B ≤ wr.heap.size)
    (h : ∀ A2 c2 w', w'.ownsRow B T sz (.slice A2 (n + 1) c2) (n + 1) (ys ++ cs.toList) → wr.grownBy w' (rowOf A) → (rowOf A2 = rowOf A ∨ rowOf A2 = some (wr.heap.size + 1)) → K (a.put o.dst (.slice A2 (n + 1) c2)) w') :
    if Region.wanted o (yielded ops a.tmps) = true then Oper.wp Tryz.prog o a (wr.alloc (.cells cs T)) K Q else E := by
  have hw : Region.wanted o (yielded ops a.tmps) = true := by simp [Region.wanted, hgd]
  rw [if_pos hw]
  subst hg
  have hby : (n + 1) * bytes ≤ 140737488355328 := Nat.le_trans (Nat.mul_le_mul hsz h5) (by decide)
  refine wp_append_lies (P := Tryz.prog) _ s x TS ho B T i0 z sz bytes hT hi hz h1 h2 h3 h4 (.slice A n c) n ys hs (hown.alloc _) ⟨wr.heap.size, 0, none⟩ 1 1 cs.toList hx (by simpa using hcs) (World.news_of_block (cs := cs) (t := T) (fr := (0, 0)) (heap_alloc_new wr _)) hone (by omega) (by unfold maxLen; omega) hby (by simp; omega) (wr.heap.size + 1) (by simp) ?_
  intro g2 cap w' h1 h2 h3 _
  rw [ownBlock_row] at h2 h3
  refine h (some ⟨g2, 0, none⟩) cap w' h1 (grownBy_trans (World.grownBy_alloc wr _ _) h2) ?_
  rcases h3 with h3 | h3
  · exact .inl h3.symm
  · exact .inr (by rw [h3]; rfl)
theorem step_appGd {K : Act → World → Prop} {E : Prop} (hgd : o.guard = none) (s x : Operand)
    (ho : o.op = .call { callee := .builtin .append, args := #[s, x], argTypes := #[TS, TS] }) (hT : (Tryz.prog).underlying TS = some (.slice T)) (hi : (Tryz.prog).info? T = some i0) (hz : i0.zero = some z) (h1 : i0.size = sz) (h2 : i0.bytes = bytes) (h3 : z.cells.size = sz) (h4 : 0 < sz) (h5 : bytes ≤ 64)
    (hcs : cs.size = sz) (hone : ∀ u ∈ cs.toList, u.oneCell' = true)
    (B : Nat) (A : Option Addr) (n c : Nat) (ys : List Value) (hs : a.eval s = .slice A n c) (hown : wr.ownsRow B T sz (.slice A n c) n ys)
    (g : Nat) (hx : a.eval x = .slice (some ⟨g, 0, none⟩) 1 1) (hg : g = wr.heap.size) (hsz : n + 1 ≤ 1099511627776) (hB : B ≤ wr.heap.size)
    (h : ∀ A2 c2 w', w'.ownsRow B T sz (.slice A2 (n + 1) c2) (n + 1) (ys ++ cs.toList) → wr.grownBy w' (rowOf A) → (rowOf A2 = rowOf A ∨ rowOf A2 = some (wr.heap.size + 1)) → K (a.put o.dst (.slice A2 (n + 1) c2)) w') :
    if Region.wanted o (yielded ops a.tmps) = true then Oper.wp Tryz.prog o a (World.drew (wr.alloc (.cells cs T))) K Q else E := by
  have hw : Region.wanted o (yielded ops a.tmps) = true := by simp [Region.wanted, hgd]
  rw [if_pos hw]
  subst hg
  have hby : (n + 1) * bytes ≤ 140737488355328 := Nat.le_trans (Nat.mul_le_mul hsz h5) (by decide)
  refine wp_append_lies (P := Tryz.prog) _ s x TS ho B T i0 z sz bytes hT hi hz h1 h2 h3 h4 (.slice A n c) n ys hs ((hown.alloc _).drew) ⟨wr.heap.size, 0, none⟩ 1 1 cs.toList hx (by simpa using hcs) (World.news_of_block (cs := cs) (t := T) (fr := (0, 0)) (show (World.drew (wr.alloc (.cells cs T))).heap[wr.heap.size]? = some (.cells cs T (0, 0)) from heap_alloc_new wr _)) hone (by omega) (by unfold maxLen; omega) hby (by simp; omega) (wr.heap.size + 1) (by simp) ?_
  intro g2 cap w' h1 h2 h3 _
  rw [ownBlock_row] at h2 h3
  refine h (some ⟨g2, 0, none⟩) cap w' h1 (grownBy_trans (World.grownBy_alloc wr _ _) ⟨h2.os, h2.tape, h2.output, h2.size, h2.block⟩) ?_
  rcases h3 with h3 | h3
  · exact .inl h3.symm
  · exact .inr (by rw [h3]; rfl)
theorem wp_appG {rest : List Oper} (hgd : o.guard = none) (s x : Operand)
    (ho : o.op = .call { callee := .builtin .append, args := #[s, x], argTypes := #[TS, TS] }) (hT : (Tryz.prog).underlying TS = some (.slice T)) (hi : (Tryz.prog).info? T = some i0) (hz : i0.zero = some z) (h1 : i0.size = sz) (h2 : i0.bytes = bytes) (h3 : z.cells.size = sz) (h4 : 0 < sz) (h5 : bytes ≤ 64)
    (hcs : cs.size = sz) (hone : ∀ u ∈ cs.toList, u.oneCell' = true)
    (B : Nat) (A : Option Addr) (n c : Nat) (ys : List Value) (hs : a.eval s = .slice A n c) (hown : wr.ownsRow B T sz (.slice A n c) n ys)
    (g : Nat) (hx : a.eval x = .slice (some ⟨g, 0, none⟩) 1 1) (hg : g = wr.heap.size) (hsz : n + 1 ≤ 1099511627776) (hB : B ≤ wr.heap.size)
    (h : ∀ A2 c2 w', w'.ownsRow B T sz (.slice A2 (n + 1) c2) (n + 1) (ys ++ cs.toList) → wr.grownBy w' (rowOf A) → (rowOf A2 = rowOf A ∨ rowOf A2 = some (wr.heap.size + 1)) → wpList Tryz.prog ops Q rest (a.put o.dst (.slice A2 (n + 1) c2)) w') :
    wpList Tryz.prog ops Q (o :: rest) a (wr.alloc (.cells cs T)) := by
  subst hg
  have hby : (n + 1) * bytes ≤ 140737488355328 := Nat.le_trans (Nat.mul_le_mul hsz h5) (by decide)
  refine wpList_append_lies (P := Tryz.prog) _ hgd s x TS ho B T i0 z sz bytes hT hi hz h1 h2 h3 h4 (.slice A n c) n ys hs (hown.alloc _) ⟨wr.heap.size, 0, none⟩ 1 1 cs.toList hx (by simpa using hcs) (World.news_of_block (cs := cs) (t := T) (fr := (0, 0)) (heap_alloc_new wr _)) hone (by omega) (by unfold maxLen; omega) hby (by simp; omega) (wr.heap.size + 1) (by simp) ?_
  intro g2 cap w' h1 h2 h3 _
  rw [ownBlock_row] at h2 h3
  refine h (some ⟨g2, 0, none⟩) cap w' h1 (grownBy_trans (World.grownBy_alloc wr _ _) h2) ?_
  rcases h3 with h3 | h3
  · exact .inl h3.symm
  · exact .inr (by rw [h3]; rfl)
end
end Go.Proofs.YtahbcnclhohnaaaGreat
