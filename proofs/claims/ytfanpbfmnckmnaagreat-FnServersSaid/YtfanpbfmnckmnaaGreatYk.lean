/- Several small texts in one: TlC, TlD. -/
import Derived.Test.YtfanpbfmnckmnaaGreatYj
import Derived.Test.YtfanpbfmnckmnaaGreatSrvB
namespace Go.Proofs.YtfanpbfmnckmnaaGreat

section
open Go.RowKit

/-- What a server of the laws reads as. -/
structure LawSv (w : World) (P A Z Y Q : Option Addr) (g n m p q : Nat) (D : SvD) : Prop where
  par : Ints w P g D.par
  vs : VarsR w A n D.vs
  rs : RecsR w Z m D.rs
  plan : TabsL w Y p D.plan
  asked : TabsL w Q q D.asked
theorem LawSv.below {w w' : World} {P A Z Y Q : Option Addr} {g n m p q : Nat} {D : SvD} (h : LawSv w P A Z Y Q g n m p q D) (hb : Below w.heap.size w w') : LawSv w' P A Z Y Q g n m p q D := ⟨h.par.below hb, h.vs.below hb, h.rs.below hb, h.plan.below hb, h.asked.below hb⟩
/-- A server of the call's own, list behind list. -/
structure OwnSv (w : World) (lo hi : Nat) (P A Z Y Q : Option Addr) (g cg n c m cm p cp q cq : Nat) (D : SvD) : Prop where
  hcp : p ≤ cp
  hcq : q ≤ cq
  own : ∃ m1 m2 m3 m4 m5, lo ≤ m1 ∧ m1 ≤ m2 ∧ m2 ≤ m3 ∧ m3 ≤ m4 ∧ m4 ≤ m5 ∧ m5 ≤ hi ∧ OwnI w lo m1 P g cg D.par ∧ OwnV w m1 m2 A n c D.vs ∧ OwnRc w m2 m3 Z m cm D.rs ∧ OwnTs w m3 m4 Y p cp D.plan ∧ OwnTs w m5 hi Q q cq D.asked
/-- What the functions want of a server. -/
structure SvR (w : World) (P A Z Y Q : Option Addr) (g n c m p cp q cq : Nat) (D : SvD) : Prop where
  sur : SurR w P A Z g n c m D
  plan : TabsR w Y p D.plan
  asked : TabsR w Q q D.asked
  hcp : p ≤ cp
  hcq : q ≤ cq
section
variable {w w' : World} {lo hi : Nat} {P A Z Y Q : Option Addr} {g cg n c m cm p cp q cq : Nat} {D : SvD}
theorem SvR.below (h : SvR w P A Z Y Q g n c m p cp q cq D) (hb : Below w.heap.size w w') : SvR w' P A Z Y Q g n c m p cp q cq D := ⟨h.sur.below hb, h.plan.below hb, h.asked.below hb, h.hcp, h.hcq⟩
theorem OwnSv.below (h : OwnSv w lo hi P A Z Y Q g cg n c m cm p cp q cq D) (hb : Below w.heap.size w w') : OwnSv w' lo hi P A Z Y Q g cg n c m cm p cp q cq D := by
  obtain ⟨m1, m2, m3, m4, m5, h1, h2, h3, h4, h5, h6, o1, o2, o3, o4, o5⟩ := h.own
  exact ⟨h.hcp, h.hcq, m1, m2, m3, m4, m5, h1, h2, h3, h4, h5, h6, o1.below hb, o2.below hb, o3.below hb, o4.below hb, o5.below hb⟩
theorem OwnSv.law (h : OwnSv w lo hi P A Z Y Q g cg n c m cm p cp q cq D) : LawSv w P A Z Y Q g n m p q D := by
  obtain ⟨m1, m2, m3, m4, m5, h1, h2, h3, h4, h5, h6, o1, o2, o3, o4, o5⟩ := h.own
  exact ⟨o1.ints, o2.vars, o3.recs, o4.tabsL, o5.tabsL⟩
end
end

section
open Go.RowKit

/-- Stores into one block. -/
def puts (w : World) (g : Nat) (l : List (Nat × Value)) : World := l.foldl (fun u p => u.setCell ⟨g, p.1, none⟩ p.2) w
theorem puts_ne {g h : Nat} : ∀ (l : List (Nat × Value)) (w : World), h ≠ g → (puts w g l).heap[h]? = w.heap[h]? := by
  intro l
  induction l with
  | nil => intro w _; rfl
  | cons p l ih => intro w hne; exact (ih (w.setCell ⟨g, p.1, none⟩ p.2) hne).trans (Below.heap_setCell w ⟨g, p.1, none⟩ p.2 h hne)
theorem puts_below {w0 : World} {B g : Nat} : ∀ (l : List (Nat × Value)) (w : World), Below B w0 w → B ≤ g → Below B w0 (puts w g l) := by
  intro l
  induction l with
  | nil => intro w h _; exact h
  | cons p l ih => intro w h hg; exact ih (w.setCell ⟨g, p.1, none⟩ p.2) (h.setCell (by exact hg) _) hg
theorem puts_chg {lo hi g : Nat} {w0 : World} : ∀ (l : List (Nat × Value)) (w : World), Chg lo hi w0 w → lo ≤ g → g < hi → Chg lo hi w0 (puts w g l) := by
  intro l
  induction l with
  | nil => intro w h _ _; exact h
  | cons p l ih => intro w h h1 h2; exact ih (w.setCell ⟨g, p.1, none⟩ p.2) (h.set h1 h2) h1 h2
theorem puts_size {g : Nat} : ∀ (l : List (Nat × Value)) (w : World), (puts w g l).heap.size = w.heap.size := by
  intro l
  induction l with
  | nil => intro w; rfl
  | cons p l ih => intro w; exact (ih (w.setCell ⟨g, p.1, none⟩ p.2)).trans (by simp)
end
end Go.Proofs.YtfanpbfmnckmnaaGreat
