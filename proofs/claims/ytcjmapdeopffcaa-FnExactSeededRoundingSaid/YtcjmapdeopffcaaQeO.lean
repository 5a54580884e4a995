/- What a matrix among the law's own arguments reads as. -/
import Derived.Test.YtcjmapdeopffcaaZg
import Derived.Deep.Slices
import Derived.Deep.Fields
import Derived.ChangeSame
import Derived.ChangeSlices
import Derived.Lib.SmallJoins
namespace Go.Proofs.Ytcjmapdeopffcaa
open Go.RowKit Go.ChangeShapes Go.WideShapes Go.Deep Go.Joins
set_option linter.unusedVariables false

theorem list_ofM {α : Type} {Q : Nat → α → Prop} : ∀ n : Nat, (∀ i, i < n → ∃ p, Q i p) → ∃ l : List α, l.length = n ∧ ∀ i, i < n → ∃ p, l[i]? = some p ∧ Q i p
  | 0, _ => ⟨[], rfl, fun i hi => absurd hi (by omega)⟩
  | n + 1, h => by
    obtain ⟨l, hl, hq⟩ := list_ofM n (fun i hi => h i (by omega))
    obtain ⟨p, hp⟩ := h n (by omega)
    refine ⟨l ++ [p], by simp [hl], fun i hi => ?_⟩
    rcases Nat.lt_or_ge i n with h1 | h1
    · obtain ⟨q, e, hq'⟩ := hq i h1
      exact ⟨q, by rw [List.getElem?_append_left (by omega)]; exact e, hq'⟩
    · obtain rfl : i = n := by omega
      exact ⟨p, by rw [List.getElem?_append_right (by omega), hl, Nat.sub_self]; rfl, hp⟩
section
variable {H : Type} {enc : TypeId × Value → H} {w : World} {base : Nat} {held : Bool}
theorem open_intsM {fuel : Nat} {v : Value} {x : DataW H × List MemPlace} (h : DataW.trod enc Try.prog w base (fun _ => true) held fuel 24 [v] = some x) :
    ∃ (V : Option Addr) (m c : Nat) (zs : List Int), v = .slice V m c ∧ Ints w V m zs ∧ m ≤ maxLen := by
  rcases open_ints Try.underlying24 Try.underlying3 (by kernel_rfl) h with ⟨hcs, _⟩ | ⟨a, l, c, zs, hcs, _, hl, hm, hz, _, hcell, _⟩
  · injection hcs with hcs
    subst hcs
    exact ⟨none, 0, 0, [], rfl, Ints.nil_, by unfold maxLen; omega⟩
  · injection hcs with hcs
    subst hcs
    exact ⟨some a, l, c, zs.take l, rfl, Ints.of_row (by simp at hz; omega) hl hcell, by omega⟩
theorem open_rowsM {fuel n c : Nat} {A : Option Addr} {x : DataW H × List MemPlace} (h : DataW.trod enc Try.prog w base (fun _ => true) held fuel 22 [.slice A n c] = some x) :
    ∃ (L : Nat → List Int), IntsS w A n L ∧ n ≤ maxLen ∧ ∀ j, j < n → (L j).length ≤ maxLen := by
  have hC : (Try.prog).cellsOf 24 = 1 := by kernel_rfl
  rcases open_slice Try.underlying22 h with ⟨hcs, _⟩ | ⟨a0, n', cap, m, k, D, Pl, hcs, _, hl, hm, hmm, _, hi⟩
  · injection hcs with hcs
    injection hcs with e1 e2 e3
    subst e1 e2 e3
    exact ⟨fun _ => [], fun h => absurd h (by omega), by unfold maxLen; omega, fun j hj => absurd hj (by omega)⟩
  · injection hcs with hcs
    injection hcs with e1 e2 e3
    subst e1 e2 e3
    rw [hC] at hi
    obtain ⟨zs, hzl, hz⟩ := list_ofM (α := List Int) (Q := fun j p => (∃ V c, w.cell? (a0.add j) = some (.slice V p.length c) ∧ Ints w V p.length p) ∧ p.length ≤ maxLen) n (fun j hj => by
      obtain ⟨cs, hcells, ht⟩ := hi j (by simp at hmm; omega)
      obtain ⟨_, hl1, hat⟩ := World.cells?_some hcells
      obtain ⟨u, rfl⟩ : ∃ u, cs = [u] := List.length_eq_one_iff.1 hl1
      have hv := hat 0 (by simp)
      obtain ⟨V, m', c', xs, rfl, hV, hm'⟩ := open_intsM ht
      have e : (a0.add (j * 1)).add 0 = a0.add j := by unfold Addr.add; simp
      rw [e] at hv
      have hl2 := hV.1
      subst hl2
      exact ⟨xs, ⟨V, c', hv, hV⟩, hm'⟩)
    refine ⟨fun j => zs[j]?.getD [], fun hn => ⟨a0, rfl, fun j hj => ?_⟩, by omega, fun j hj => ?_⟩
    · obtain ⟨p, e, h1, _⟩ := hz j hj
      simp only [e, Option.getD_some]
      exact h1
    · obtain ⟨p, e, _, h2⟩ := hz j hj
      simp only [e, Option.getD_some]
      exact h2
end
end Go.Proofs.Ytcjmapdeopffcaa
