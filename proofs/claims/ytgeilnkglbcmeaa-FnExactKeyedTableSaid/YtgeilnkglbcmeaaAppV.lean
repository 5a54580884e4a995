/- Appending a variable onto a row of the call's own. -/
import Derived.Test.YtgeilnkglbcmeaaVarsT
import Derived.Test.YtgeilnkglbcmeaaAppend
namespace Go.Proofs.Ytgeilnkglbcmeaa
open Go.RowKit

theorem vcells_snoc (vs : List (ByteArray × Int)) (s : ByteArray) (x : Int) : vcells (vs ++ [(s, x)]) = vcells vs ++ [.string s, .int .i64 x] := by
  induction vs with
  | nil => rfl
  | cons p vs ih => simp only [List.cons_append, vcells, ih]

/-- 'append(s, v)' of one variable: v lies in a new block of its own. -/
theorem wp_appV1 {wr : World} {nm : ByteArray} {v : Int} {ops : Array Oper} {rest : List Oper} {o : Oper} {a : Act} {Q : Exit → Act → World → Prop} (hgd : o.guard = none) (s x : Operand)
    (ho : o.op = .call { callee := .builtin .append, args := #[s, x], argTypes := #[35, 35] })
    (B : Nat) (A : Option Addr) (n c : Nat) (vs : List (ByteArray × Int)) (hs : a.eval s = .slice A n c) (hown : wr.ownsRow B 89 2 (.slice A n c) n (vcells vs))
    (g : Nat) (hx : a.eval x = .slice (some ⟨g, 0, none⟩) 1 1) (hg : g = wr.heap.size) (hsz : n + 1 ≤ 1099511627776) (hB : B ≤ wr.heap.size)
    (h : ∀ A2 c2 w', w'.ownsRow B 89 2 (.slice A2 (n + 1) c2) (n + 1) (vcells (vs ++ [(nm, v)])) → wr.grownBy w' (rowOf A) → (rowOf A2 = rowOf A ∨ rowOf A2 = some (wr.heap.size + 1)) → wpList Try.prog ops Q rest (a.put o.dst (.slice A2 (n + 1) c2)) w') :
    wpList Try.prog ops Q (o :: rest) a (wr.alloc (.cells #[.string nm, .int .i64 v] 89)) := by
  obtain ⟨i0, hi, hz0, hz1, hz2⟩ := info_parts Try.infoVariable
  subst hg
  refine wpList_append_own_at _ hgd s x 35 ho B 89 i0 _ 2 24 Try.underlying35 hi hz0 hz1 hz2 rfl (by omega) (.slice A n c) n (vcells vs) hs (hown.alloc _) ⟨wr.heap.size, 0, none⟩ 1 1 [.string nm, .int .i64 v] hx rfl ?_ ?_
      (by unfold maxLen; omega) (by omega) (by simp; omega) ?_
  · intro j u hu
    have hb := box_new wr #[.string nm, .int .i64 v] 89
    rw [addr_add0]
    match j with
    | 0 => simp at hu; subst hu; exact box_cell hb 0 _ rfl
    | 1 => simp at hu; subst hu; exact box_cell hb 1 _ rfl
    | j + 2 => simp at hu
  · intro u hu
    simp at hu
    rcases hu with rfl | rfl <;> rfl
  · intro v' w' h1 h2 h3 h4
    rw [ownBlock_row] at h2 h4
    rw [← vcells_snoc] at h1
    have hv : ∃ A2 c2, v' = .slice A2 (n + 1) c2 := by
      rcases h1.2 with ⟨hv, h0⟩ | ⟨g, cap, cur, hv, _⟩
      · rw [h0]; exact ⟨none, 0, hv⟩
      · exact ⟨_, cap, hv⟩
    obtain ⟨A2, c2, rfl⟩ := hv
    rw [ownBlock_row] at h4
    exact h A2 c2 w' h1 (grownBy_trans (World.grownBy_alloc wr _ _) h2) (by simpa using h4)
end Go.Proofs.Ytgeilnkglbcmeaa
