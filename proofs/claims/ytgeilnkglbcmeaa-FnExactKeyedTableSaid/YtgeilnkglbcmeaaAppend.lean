/- Appending ints onto a row of the call's own, whatever the source. -/
import Derived.Test.YtgeilnkglbcmeaaSlices
import Derived.Maps.AppendAt
namespace Go.Proofs.Ytgeilnkglbcmeaa
open Go.RowKit

theorem ownBlock_row (A : Option Addr) (n c : Nat) : (Value.slice A n c).ownBlock = rowOf A := by cases A <;> rfl

set_option maxRecDepth 100000 in
theorem run_app_nil {w : World} {B : Nat} {A : Option Addr} {n c : Nat} {xs : List Int} (ty : TypeId) (c' : Nat) (hown : Own w B A n c xs) :
    (Builtin.append_ #[27, 27] ty #[.slice A n c, .slice none 0 c']).run Try.prog w = .ok (.slice A n c) w := by
  obtain ⟨i0, hi, _⟩ := info_parts Try.infoInt
  rcases hown.2 with ⟨h1, h2⟩ | ⟨g, cap, cur, h1, _, _, hnc, _⟩
  · simp only [Value.slice.injEq] at h1
    obtain ⟨rfl, rfl, rfl⟩ := h1
    simp [Builtin.append_, run_underlying Try.underlying27, sizeOf, typeInfo, hi, Builtin.lenOf, Builtin.firstCells]
  · simp only [Value.slice.injEq, true_and] at h1
    obtain ⟨rfl, rfl⟩ := h1
    simp [Builtin.append_, run_underlying Try.underlying27, sizeOf, typeInfo, hi, Builtin.lenOf, Builtin.firstCells, hnc, storeCells]

theorem oneCells (zs : List Int) : ∀ u ∈ zs.map (Value.int .i64), u.oneCell' = true := ints_oneCell _ _

set_option maxRecDepth 100000 in
theorem wp_app {w : World} {ops : Array Oper} {rest : List Oper} {o : Oper} {a : Act} {Q : Exit → Act → World → Prop} (hgd : o.guard = none) (s x : Operand)
    (ho : o.op = .call { callee := .builtin .append, args := #[s, x], argTypes := #[27, 27] })
    (B : Nat) (A : Option Addr) (n c : Nat) (xs : List Int) (hs : a.eval s = .slice A n c) (hown : Own w B A n c xs)
    (A' : Option Addr) (m c' : Nat) (ys : List Int) (hx : a.eval x = .slice A' m c') (hr : Ints w A' m ys) (hsz : n + m ≤ 1099511627776) (hB : B ≤ w.heap.size)
    (h : ∀ A2 c2 w', Own w' B A2 (n + m) c2 (xs ++ ys) → w.grownBy w' (rowOf A) → (rowOf A2 = rowOf A ∨ rowOf A2 = some w.heap.size) → wpList Try.prog ops Q rest (a.put o.dst (.slice A2 (n + m) c2)) w') :
    wpList Try.prog ops Q (o :: rest) a w := by
  obtain ⟨i0, hi, hz0, hz1, hz2⟩ := info_parts Try.infoInt
  rcases A' with _ | ad
  · have hm : m = 0 := by
      rcases Nat.eq_zero_or_pos m with h0 | h0
      · exact h0
      · obtain ⟨_, e, _⟩ := hr.2 h0; cases e
    subst hm
    obtain rfl : ys = [] := List.eq_nil_of_length_eq_zero hr.1
    have hrun := run_app_nil o.type c' hown
    refine wpList_plain hgd fun K hK => ?_
    unfold Oper.wp
    simp [execOp, ho, resolve, invoke, builtin, hs, hx, hrun, Result.andThen]
    exact hK _ _ (h A c w (by simpa using hown) (World.grownBy.refl _ _) (.inl rfl))
  · refine wpList_append_own_at w hgd s x 27 ho B 3 i0 _ 1 8 Try.underlying27 hi hz0 hz1 hz2 rfl (by omega) (.slice A n c) n (xs.map (Value.int .i64)) hs hown ad m c' (ys.map (Value.int .i64)) hx (by simp [hr.1]) ?_ (oneCells ys)
      (by unfold maxLen; omega) (by omega) hB ?_
    · intro j u hu
      have hl := hr.1
      rw [List.getElem?_map, Option.map_eq_some_iff] at hu
      obtain ⟨y, hy, rfl⟩ := hu
      have hj : j < m := by
        rcases Nat.lt_or_ge j ys.length with h1 | h1
        · omega
        · rw [List.getElem?_eq_none h1] at hy; cases hy
      obtain ⟨ad', e, hc⟩ := hr.at_ hj
      injection e with e
      subst e
      rw [hc, hy]
      rfl
    · intro v' w' h1 h2 h3 h4
      rw [ownBlock_row] at h2 h4
      rw [← List.map_append] at h1
      have hv : ∃ A2 c2, v' = .slice A2 (n + m) c2 := by
        rcases h1.2 with ⟨hv, h0⟩ | ⟨g, cap, cur, hv, _⟩
        · rw [h0]; exact ⟨none, 0, hv⟩
        · exact ⟨_, cap, hv⟩
      obtain ⟨A2, c2, rfl⟩ := hv
      rw [ownBlock_row] at h4
      exact h A2 c2 w' h1 h2 h4

theorem ints_one {w : World} {g : Nat} {v : Int} (hg : g = w.heap.size) : Ints (w.alloc (.cells #[.int .i64 v] 3)) (some ⟨g, 0, none⟩) 1 [v] := by
  refine ⟨rfl, fun _ => ⟨_, rfl, fun j hj => ?_⟩⟩
  obtain rfl : j = 0 := by omega
  subst hg
  exact cell_one_new w (.int .i64 v) 3 0 _ rfl

/-- 'append(s, v)' of one int: v lies in a new block of its own. -/
theorem wp_app1 {wr : World} {v : Int} {ops : Array Oper} {rest : List Oper} {o : Oper} {a : Act} {Q : Exit → Act → World → Prop} (hgd : o.guard = none) (s x : Operand)
    (ho : o.op = .call { callee := .builtin .append, args := #[s, x], argTypes := #[27, 27] })
    (B : Nat) (A : Option Addr) (n c : Nat) (xs : List Int) (hs : a.eval s = .slice A n c) (hown : Own wr B A n c xs)
    (g : Nat) (hx : a.eval x = .slice (some ⟨g, 0, none⟩) 1 1) (hg : g = wr.heap.size) (hsz : n + 1 ≤ 1099511627776) (hB : B ≤ wr.heap.size)
    (h : ∀ A2 c2 w', Own w' B A2 (n + 1) c2 (xs ++ [v]) → wr.grownBy w' (rowOf A) → (rowOf A2 = rowOf A ∨ rowOf A2 = some (wr.heap.size + 1)) → wpList Try.prog ops Q rest (a.put o.dst (.slice A2 (n + 1) c2)) w') :
    wpList Try.prog ops Q (o :: rest) a (wr.alloc (.cells #[.int .i64 v] 3)) :=
  wp_app hgd s x ho B A n c xs hs (hown.below ((Below.refl _ _).alloc (Nat.le_refl _) _)) (some ⟨g, 0, none⟩) 1 1 [v] hx (ints_one hg) hsz (by simp; omega) fun A2 c2 w' h1 h2 h3 =>
    h A2 c2 w' h1 (grownBy_trans (World.grownBy_alloc wr _ _) h2) (by simpa using h3)
end Go.Proofs.Ytgeilnkglbcmeaa
