/- Several small texts in one: CellsP, Cells, CellsL. -/
import Derived.Test.YtfanpbfmnckmnaaGreatClass
import Derived.Test.YtfanpbfmnckmnaaGreatYw
import Derived.RegionTactic
import Derived.ChangeAlike
import Derived.BigRegion
import Derived.Deep.OwnRows
import Derived.Deep.CutRange
namespace Go.Proofs.YtfanpbfmnckmnaaGreat

section
open Go.RowKit

/-- The cell of the j-th record. -/
def cellAt (vs : List (ByteArray × Int)) (us : List Int) (rs : List RecD) (j : Nat) : Nat := (keyV vs (rV rs j) us).toNat
/-- Two rows of ints of the call's own, apart. -/
def TwoI (w w' : World) (A1 : Option Addr) (n1 c1 : Nat) (l1 : List Int) (A2 : Option Addr) (n2 c2 : Nat) (l2 : List Int) : Prop :=
  ∃ p1 q1 p2 q2, w.heap.size ≤ p1 ∧ q1 ≤ w'.heap.size ∧ w.heap.size ≤ p2 ∧ q2 ≤ w'.heap.size ∧ (q1 ≤ p2 ∨ q2 ≤ p1) ∧ OwnI w' p1 q1 A1 n1 c1 l1 ∧ OwnI w' p2 q2 A2 n2 c2 l2
/-- Two rows at two known blocks. -/
structure TwoAt (w0 w : World) (N g1 g2 : Nat) (l1 l2 : List Int) : Prop where
  ne : g1 ≠ g2
  b1 : w0.heap.size ≤ g1
  b2 : w0.heap.size ≤ g2
  o1 : Own w g1 (some ⟨g1, 0, none⟩) N N l1
  o2 : Own w g2 (some ⟨g2, 0, none⟩) N N l2
theorem TwoAt.below {w0 w w' : World} {N g1 g2 : Nat} {l1 l2 : List Int} (h : TwoAt w0 w N g1 g2 l1 l2) (hb : Below w.heap.size w w') : TwoAt w0 w' N g1 g2 l1 l2 := ⟨h.ne, h.b1, h.b2, h.o1.below hb, h.o2.below hb⟩
theorem TwoAt.two {w0 w : World} {N g1 g2 : Nat} {l1 l2 : List Int} (h : TwoAt w0 w N g1 g2 l1 l2) (hN : N ≤ 1099511627776) : TwoI w0 w (some ⟨g1, 0, none⟩) N N l1 (some ⟨g2, 0, none⟩) N N l2 := by
  have := h.ne
  have h1 := h.o1.size_lt
  have h2 := h.o2.size_lt
  refine ⟨g1, g1 + 1, g2, g2 + 1, h.b1, by omega, h.b2, by omega, by omega, ⟨h.o1, fun k hk => ?_, hN⟩, ⟨h.o2, fun k hk => ?_, hN⟩⟩
  · simp only [rowOf, Option.some.injEq] at hk; omega
  · simp only [rowOf, Option.some.injEq] at hk; omega
theorem own_made (w : World) (n : Nat) (hn : n ≤ 1099511627776) : Own (w.alloc (.cells (madeCells #[.int .i64 0] n) 3)) w.heap.size (some ⟨w.heap.size, 0, none⟩) n n (List.replicate n 0) := by
  have h := own_new w (List.replicate n 0) n (by simp) hn
  have e : (madeCells #[Value.int .i64 0] n) = ((List.replicate n (0 : Int)).map (Value.int .i64)).toArray := by
    have := map_replicate0 n
    rw [← this]
    simp [Value.cells]
  rw [e]
  exact h
end

section
open Go.RowKit
end

section
open Go.RowKit

theorem TwoI.nil_ {w w' : World} (h : w.heap.size ≤ w'.heap.size) : TwoI w w' none 0 0 [] none 0 0 [] :=
  ⟨w.heap.size, w.heap.size, w.heap.size, w.heap.size, Nat.le_refl _, h, Nat.le_refl _, h, .inl (Nat.le_refl _), OwnI.nil_, OwnI.nil_⟩
end
end Go.Proofs.YtfanpbfmnckmnaaGreat
