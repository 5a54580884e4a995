/- What a noise table among the law's own arguments reads as. -/
import Derived.Test.YtgeilnkglbcmeaaOpenS
import Derived.Test.YtgeilnkglbcmeaaSets
import Derived.Lib.SmallJoins
namespace Go.Proofs.Ytgeilnkglbcmeaa
open Go.RowKit Go.ChangeShapes Go.WideShapes Go.Deep Go.Joins

section
variable {H : Type} {enc : TypeId × Value → H} {w : World} {base : Nat} {held : Bool}
theorem open_rows {fuel : Nat} {v : Value} {x : DataW H × List MemPlace} (h : DataW.trod enc Try.prog w base (fun _ => true) held fuel 22 [v] = some x) :
    ∃ (A : Option Addr) (n c : Nat) (L : Nat → List Int), v = .slice A n c ∧ IntsS w A n L ∧ n ≤ maxLen ∧ ∀ j, j < n → (L j).length ≤ maxLen := by
  have hC : (Try.prog).cellsOf 27 = 1 := by kernel_rfl
  rcases open_slice Try.underlying22 h with ⟨hcs, _⟩ | ⟨a0, n, cap, m, k, D, Pl, hcs, _, hl, hm, hmm, _, hi⟩
  · injection hcs with hcs
    subst hcs
    exact ⟨none, 0, 0, fun _ => [], rfl, fun h => absurd h (by omega), by unfold maxLen; omega, fun j hj => absurd hj (by omega)⟩
  · injection hcs with hcs
    subst hcs
    rw [hC] at hi
    obtain ⟨zs, hzl, hz⟩ := list_of (α := List Int) (Q := fun j p => (∃ V c, w.cell? (a0.add j) = some (.slice V p.length c) ∧ Ints w V p.length p) ∧ p.length ≤ maxLen) n (fun j hj => by
      obtain ⟨cs, hcells, ht⟩ := hi j (by simp at hmm; omega)
      obtain ⟨_, hl1, hat⟩ := World.cells?_some hcells
      obtain ⟨u, rfl⟩ : ∃ u, cs = [u] := List.length_eq_one_iff.1 hl1
      have hv := hat 0 (by simp)
      obtain ⟨V, m', c', xs, rfl, hV, hm', _⟩ := open_ints_any ht
      have e : (a0.add (j * 1)).add 0 = a0.add j := by unfold Addr.add; simp
      rw [e] at hv
      have hl2 := hV.1
      subst hl2
      exact ⟨xs, ⟨V, c', hv, hV⟩, hm'⟩)
    refine ⟨some a0, n, cap, fun j => zs[j]?.getD [], rfl, fun hn => ⟨a0, rfl, fun j hj => ?_⟩, by omega, fun j hj => ?_⟩
    · obtain ⟨p, e, h1, _⟩ := hz j hj
      simp only [e, Option.getD_some]
      exact h1
    · obtain ⟨p, e, _, h2⟩ := hz j hj
      simp only [e, Option.getD_some]
      exact h2

set_option maxRecDepth 100000 in
theorem open_noise {r : Reach} {b0 : Nat} {v : Value} {d : DataW H} {p : List MemPlace} (hv : Value.okWide Try.prog w r b0 24 v) (h : DataW.Trod enc Try.prog w base (fun _ => true) held 24 v d p) :
    ∃ (A : Option Addr) (n c : Nat) (L : Nat → List Int), v = .agg #[.slice A n c] ∧ IntsS w A n L ∧ n ≤ maxLen ∧ ∀ j, j < n → (L j).length ≤ maxLen := by
  have hC : (Try.prog).cellsOf 24 = 1 := by kernel_rfl
  obtain ⟨cs, rfl, hsz⟩ := okWide_struct Try.underlying24 hv
  obtain ⟨c0, rfl⟩ : ∃ c0, cs = #[c0] := Array.size_eq_one_iff.1 (hsz.trans hC)
  obtain ⟨fuel, hf⟩ := h
  obtain ⟨ys, n', _, _, _, hyl, hfd⟩ := DataW.trod_struct Try.underlying24 hf
  have h1 := hfd 0 _ rfl
  have hC1 : (Try.prog).cellsOf 22 = 1 := by kernel_rfl
  simp [Value.cells, hC1] at h1
  obtain ⟨y, hy⟩ : ∃ y, ys[0]? = some y := ⟨_, List.getElem?_eq_getElem (by rw [hyl]; simp)⟩
  rw [hy] at h1
  obtain ⟨A, n, c, L, rfl, hA, hn, hL⟩ := open_rows h1
  exact ⟨A, n, c, L, rfl, hA, hn, hL⟩
end
end Go.Proofs.Ytgeilnkglbcmeaa
