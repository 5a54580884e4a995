/- Several small texts in one: CellsP, Cells, CellsL. -/
import Derived.Test.YtfanpbfmnckmnaaGreatClass
import Derived.Test.YtfanpbfmnckmnaaGreatYw
import Derived.RegionTactic
import Derived.ChangeAlike
import Derived.BigRegion
import Derived.Deep.OwnRows
import Derived.Deep.CutRange
namespace Go.Proofs.YtfanpbfmnckmnaaGreat

section
open Go.RowKit

/-- The cell of the j-th record. -/
def cellAt (vs : List (ByteArray × Int)) (us : List Int) (rs : List RecD) (j : Nat) : Nat := (keyV vs (rV rs j) us).toNat
def cellsC (vs : List (ByteArray × Int)) (us : List Int) (rs : List RecD) (N : Nat) : Nat → List Int
  | 0 => List.replicate N 0
  | j + 1 => (cellsC vs us rs N j).set (cellAt vs us rs j) ((cellsC vs us rs N j)[cellAt vs us rs j]?.getD 0 + 1)
def cellsK (sd : Int) (vs : List (ByteArray × Int)) (us : List Int) (rs : List RecD) (N : Nat) : Nat → List Int
  | 0 => List.replicate N 0
  | j + 1 => (cellsK sd vs us rs N j).set (cellAt vs us rs j) (((cellsK sd vs us rs N j)[cellAt vs us rs j]?.getD 0 + rkey sd (rA rs j) (rH rs j) (rV rs j)) % 65536)
theorem cellsC_len (vs : List (ByteArray × Int)) (us : List Int) (rs : List RecD) (N j : Nat) : (cellsC vs us rs N j).length = N := by
  induction j with
  | zero => simp [cellsC]
  | succ j ih => simp [cellsC, ih]
theorem cellsK_len (sd : Int) (vs : List (ByteArray × Int)) (us : List Int) (rs : List RecD) (N j : Nat) : (cellsK sd vs us rs N j).length = N := by
  induction j with
  | zero => simp [cellsK]
  | succ j ih => simp [cellsK, ih]
theorem getD_rep (N t : Nat) : (List.replicate N (0 : Int))[t]?.getD 0 = 0 := by
  rw [List.getElem?_replicate]
  split <;> rfl
theorem cellsC_bd (vs : List (ByteArray × Int)) (us : List Int) (rs : List RecD) (N j t : Nat) : 0 ≤ (cellsC vs us rs N j)[t]?.getD 0 ∧ (cellsC vs us rs N j)[t]?.getD 0 ≤ j := by
  induction j generalizing t with
  | zero => simp only [cellsC, getD_rep]; omega
  | succ j ih =>
    have h1 := ih t
    have h2 := ih (cellAt vs us rs j)
    simp only [cellsC, getD_set]
    split <;> omega
theorem cellsK_bd (sd : Int) (vs : List (ByteArray × Int)) (us : List Int) (rs : List RecD) (N j t : Nat) : 0 ≤ (cellsK sd vs us rs N j)[t]?.getD 0 ∧ (cellsK sd vs us rs N j)[t]?.getD 0 < 65536 := by
  induction j generalizing t with
  | zero => simp only [cellsK, getD_rep]; omega
  | succ j ih =>
    have h1 := ih t
    simp only [cellsK, getD_set]
    split
    · exact ⟨Int.emod_nonneg _ (by omega), Int.emod_lt_of_pos _ (by omega)⟩
    · exact h1
/-- The count of cells, as a Nat. -/
def cellsN (vs : List (ByteArray × Int)) (us : List Int) : Nat := (prodN vs us us.length).toNat
theorem cellsN_eq {vs : List (ByteArray × Int)} {us : List Int} {n : Nat} (h : PartOk vs us n) : prodN vs us us.length = (cellsN vs us : Int) ∧ cellsN vs us ≤ 262144 := by
  have := h.prod
  unfold cellsN
  omega
theorem cellAt_lt {vs : List (ByteArray × Int)} {us : List Int} {rs : List RecD} {n j : Nat} (h : KeyOk vs (rV rs j) us n) : keyV vs (rV rs j) us = (cellAt vs us rs j : Int) ∧ cellAt vs us rs j < cellsN vs us := by
  have h1 := h.keyV_bd
  have h2 := h.lt_prod us.length (Nat.le_refl _)
  have h3 := cellsN_eq h.part
  unfold cellAt
  unfold keyV at *
  omega
/-- Two rows of ints of the call's own, apart. -/
def TwoI (w w' : World) (A1 : Option Addr) (n1 c1 : Nat) (l1 : List Int) (A2 : Option Addr) (n2 c2 : Nat) (l2 : List Int) : Prop :=
  ∃ p1 q1 p2 q2, w.heap.size ≤ p1 ∧ q1 ≤ w'.heap.size ∧ w.heap.size ≤ p2 ∧ q2 ≤ w'.heap.size ∧ (q1 ≤ p2 ∨ q2 ≤ p1) ∧ OwnI w' p1 q1 A1 n1 c1 l1 ∧ OwnI w' p2 q2 A2 n2 c2 l2
/-- Two rows at two known blocks. -/
structure TwoAt (w0 w : World) (N g1 g2 : Nat) (l1 l2 : List Int) : Prop where
  ne : g1 ≠ g2
  b1 : w0.heap.size ≤ g1
  b2 : w0.heap.size ≤ g2
  o1 : Own w g1 (some ⟨g1, 0, none⟩) N N l1
  o2 : Own w g2 (some ⟨g2, 0, none⟩) N N l2
theorem TwoAt.below {w0 w w' : World} {N g1 g2 : Nat} {l1 l2 : List Int} (h : TwoAt w0 w N g1 g2 l1 l2) (hb : Below w.heap.size w w') : TwoAt w0 w' N g1 g2 l1 l2 := ⟨h.ne, h.b1, h.b2, h.o1.below hb, h.o2.below hb⟩
theorem own_far_set {w : World} {B g n c i : Nat} {g' : Nat} {v : Value} {xs : List Int} (h : Own w B (some ⟨g, 0, none⟩) n c xs) (hne : g ≠ g') : Own (w.setCell ⟨g', i, none⟩ v) B (some ⟨g, 0, none⟩) n c xs :=
  h.keep fun b hb _ => by
    simp only [Option.some.injEq, Addr.mk.injEq, and_true] at hb
    subst hb
    exact Below.heap_setCell w ⟨g', i, none⟩ v g hne
theorem TwoAt.set1 {w0 w : World} {N g1 g2 i : Nat} {l1 l2 : List Int} (h : TwoAt w0 w N g1 g2 l1 l2) (x : Int) : TwoAt w0 (w.setCell ⟨g1, i, none⟩ (.int .i64 x)) N g1 g2 (l1.set i x) l2 :=
  ⟨h.ne, h.b1, h.b2, h.o1.set, own_far_set h.o2 h.ne.symm⟩
theorem TwoAt.set2 {w0 w : World} {N g1 g2 i : Nat} {l1 l2 : List Int} (h : TwoAt w0 w N g1 g2 l1 l2) (x : Int) : TwoAt w0 (w.setCell ⟨g2, i, none⟩ (.int .i64 x)) N g1 g2 l1 (l2.set i x) :=
  ⟨h.ne, h.b1, h.b2, own_far_set h.o1 h.ne, h.o2.set⟩
theorem TwoAt.two {w0 w : World} {N g1 g2 : Nat} {l1 l2 : List Int} (h : TwoAt w0 w N g1 g2 l1 l2) (hN : N ≤ 1099511627776) : TwoI w0 w (some ⟨g1, 0, none⟩) N N l1 (some ⟨g2, 0, none⟩) N N l2 := by
  have := h.ne
  have h1 := h.o1.size_lt
  have h2 := h.o2.size_lt
  refine ⟨g1, g1 + 1, g2, g2 + 1, h.b1, by omega, h.b2, by omega, by omega, ⟨h.o1, fun k hk => ?_, hN⟩, ⟨h.o2, fun k hk => ?_, hN⟩⟩
  · simp only [rowOf, Option.some.injEq] at hk; omega
  · simp only [rowOf, Option.some.injEq] at hk; omega
theorem own_made (w : World) (n : Nat) (hn : n ≤ 1099511627776) : Own (w.alloc (.cells (madeCells #[.int .i64 0] n) 3)) w.heap.size (some ⟨w.heap.size, 0, none⟩) n n (List.replicate n 0) := by
  have h := own_new w (List.replicate n 0) n (by simp) hn
  have e : (madeCells #[Value.int .i64 0] n) = ((List.replicate n (0 : Int)).map (Value.int .i64)).toArray := by
    have := map_replicate0 n
    rw [← this]
    simp [Value.cells]
  rw [e]
  exact h
end

section
open Go.RowKit

theorem made_two (w : World) (N : Nat) (hN : N ≤ 1099511627776) : Own ((w.alloc (.cells (madeCells #[.int .i64 0] N) 3)).alloc (.cells (madeCells #[.int .i64 0] N) 3)) w.heap.size (some ⟨w.heap.size, 0, none⟩) N N (List.replicate N 0) ∧
    Own ((w.alloc (.cells (madeCells #[.int .i64 0] N) 3)).alloc (.cells (madeCells #[.int .i64 0] N) 3)) (w.heap.size + 1) (some ⟨w.heap.size + 1, 0, none⟩) N N (List.replicate N 0) ∧
    Below w.heap.size w ((w.alloc (.cells (madeCells #[.int .i64 0] N) 3)).alloc (.cells (madeCells #[.int .i64 0] N) 3)) :=
  ⟨(own_made w N hN).below (below_new _ _), by simpa using own_made (w.alloc (.cells (madeCells #[.int .i64 0] N) 3)) N hN, (below_new w _).alloc (by simp) _⟩
end

section
open Go.RowKit

def kcB (sd : Int) (vs : List (ByteArray × Int)) (rs : List RecD) (us : List Int) : Bool := inR sd 0 4611686016279904236 && keyedB vs rs us
def kcC (sd : Int) (vs : List (ByteArray × Int)) (rs : List RecD) (us : List Int) : List Int := if kcB sd vs rs us = true then cellsC vs us rs (cellsN vs us) rs.length else []
def kcK (sd : Int) (vs : List (ByteArray × Int)) (rs : List RecD) (us : List Int) : List Int := if kcB sd vs rs us = true then cellsK sd vs us rs (cellsN vs us) rs.length else []
def RetTwo (w : World) (L1 L2 : List Int) (b : Bool) (e : Ending) (w' : World) : Prop :=
  ∃ A1 c1 A2 c2, e = .returned (.tuple #[.slice A1 L1.length c1, .slice A2 L2.length c2, .bool b]) ∧ TwoI w w' A1 L1.length c1 L1 A2 L2.length c2 L2 ∧ Below w.heap.size w w'
theorem TwoI.nil_ {w w' : World} (h : w.heap.size ≤ w'.heap.size) : TwoI w w' none 0 0 [] none 0 0 [] :=
  ⟨w.heap.size, w.heap.size, w.heap.size, w.heap.size, Nat.le_refl _, h, Nat.le_refl _, h, .inl (Nat.le_refl _), OwnI.nil_, OwnI.nil_⟩
theorem TwoI.fit {w0 w w' : World} {A1 A2 : Option Addr} {n1 c1 n2 c2 : Nat} {l1 l2 : List Int} (h : TwoI w w' A1 n1 c1 l1 A2 n2 c2 l2) (hw : w0.heap.size ≤ w.heap.size) : TwoI w0 w' A1 n1 c1 l1 A2 n2 c2 l2 := by
  obtain ⟨p1, q1, p2, q2, h1, h2, h3, h4, h5, h6, h7⟩ := h
  exact ⟨p1, q1, p2, q2, by omega, h2, by omega, h4, h5, h6, h7⟩
end
end Go.Proofs.YtfanpbfmnckmnaaGreat
