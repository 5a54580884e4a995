/- Losses, gaps, codes, servers: plain laws. -/
import Derived.Test.YtfanpbfmnckmnaaGreatYe
import Derived.Test.YtfanpbfmnckmnaaGreatYa
namespace Go.Proofs.YtfanpbfmnckmnaaGreat
open Go.RowKit

def mulO (n d p q : Int) : Option (Int × Int) := redO (n * p) (d * q)
/-- A loss: ratio and rho. -/
structure LosD where
  a : Int
  b : Int
  c : Int
  d : Int
def losB (x : LosD) : Bool := fracB x.a x.b && (fracB x.c x.d && (decide (x.b ≤ x.a) && decide (0 ≤ x.c)))
def los1 : LosD := ⟨1, 1, 0, 1⟩
/-- Two losses composed. -/
def twoO (x y : LosD) : Option LosD := (mulO x.a x.b y.a y.b).bind fun r => (addO x.c x.d y.c y.d).map fun s => ⟨r.1, r.2, s.1, s.2⟩
def costO (x : LosD) : Nat → Option LosD
  | 0 => some los1
  | k + 1 => (costO x k).bind fun y => twoO y x
def inLos (l x : LosD) : Bool := decide (x.a * l.b ≤ l.a * x.b) && decide (x.c * l.d ≤ l.c * x.d)
def fitsB (cost budget : LosD) (n : Nat) : Bool := match costO cost n with
  | none => false
  | some x => inLos budget x
structure LosOk (x : LosD) : Prop where
  f : fracB x.a x.b = true
  g : fracB x.c x.d = true
theorem losB_ok {x : LosD} (h : losB x = true) : LosOk x := by
  unfold losB at h
  simp only [Bool.and_eq_true] at h
  exact ⟨h.1, h.2.1⟩
theorem los1_ok : LosOk los1 := ⟨by decide, by decide⟩
theorem twoO_ok {x y z : LosD} (h : twoO x y = some z) : LosOk z := by
  unfold twoO at h
  cases h1 : mulO x.a x.b y.a y.b with
  | none => rw [h1] at h; cases h
  | some r =>
    cases h2 : addO x.c x.d y.c y.d with
    | none => rw [h1, h2] at h; cases h
    | some s =>
      rw [h1, h2] at h
      simp only [Option.bind_some, Option.map_some, Option.some.injEq] at h
      subst h
      exact ⟨redO_frac h1, redO_frac h2⟩
theorem twoO_1 {x y : LosD} (h : mulO x.a x.b y.a y.b = none) : twoO x y = none := by unfold twoO; rw [h]; rfl
theorem twoO_2 {x y : LosD} (h : addO x.c x.d y.c y.d = none) : twoO x y = none := by unfold twoO; rw [h]; cases mulO x.a x.b y.a y.b <;> rfl
theorem twoO_3 {x y : LosD} {p q r s : Int} (h : mulO x.a x.b y.a y.b = some (p, q)) (h2 : addO x.c x.d y.c y.d = some (r, s)) : twoO x y = some ⟨p, q, r, s⟩ := by unfold twoO; rw [h, h2]; rfl
theorem costO_step {x y : LosD} {k : Nat} (h : costO x k = some y) : costO x (k + 1) = twoO y x := by rw [costO, h]; rfl
theorem costO_stop {x : LosD} {k m : Nat} (h : costO x k = none) (hk : k ≤ m) : costO x m = none := by
  induction m with
  | zero => obtain rfl : k = 0 := by omega
            exact h
  | succ m ih =>
    by_cases e : k = m + 1
    · rw [← e]; exact h
    · rw [costO, ih (by omega)]; rfl
theorem costO_ok {x y : LosD} {k : Nat} (h : costO x k = some y) : LosOk y := by
  cases k with
  | zero => rw [costO] at h; cases h; exact los1_ok
  | succ k =>
    cases hk : costO x k with
    | none => rw [costO, hk] at h; cases h
    | some z => rw [costO_step hk] at h; exact twoO_ok h
/-- The same table. -/
def sameT (a b : TabD) : Bool := (a.lv == b.lv) && ((a.sum == b.sum) && ((a.vars == b.vars) && (a.wh == b.wh)))
theorem sameT_comm (a b : TabD) : sameT a b = sameT b a := by
  have h1 : ∀ x y : Int, (x == y) = (y == x) := fun x y => by rw [Bool.eq_iff_iff]; exact ⟨fun h => beq_iff_eq.2 (beq_iff_eq.1 h).symm, fun h => beq_iff_eq.2 (beq_iff_eq.1 h).symm⟩
  have h2 : ∀ x y : List Int, (x == y) = (y == x) := fun x y => by rw [Bool.eq_iff_iff]; exact ⟨fun h => beq_iff_eq.2 (beq_iff_eq.1 h).symm, fun h => beq_iff_eq.2 (beq_iff_eq.1 h).symm⟩
  unfold sameT
  rw [h1 a.lv, h1 a.sum, h2 a.vars, h2 a.wh]
/-- The same kind: level, variables, sum. -/
def kindT (a b : TabD) : Bool := (a.lv == b.lv) && ((a.sum == b.sum) && (a.vars == b.vars))
def fndN (ts : List TabD) (t : TabD) : Nat := ts.findIdx (fun u => sameT u t)
/-- The index of a table, or -1. -/
def fndT (ts : List TabD) (t : TabD) : Int := if fndN ts t < ts.length then (fndN ts t : Int) else -1
/-- The least positive difference of two rows of cells. -/
def absG (x : Int) : Int := if x < 0 then -x else x
def gapC (own cells : List Int) (b : Int) : Nat → Int
  | 0 => b
  | k + 1 => fewS (gapC own cells b k) (absG (cells[k]?.getD 0 - own[k]?.getD 0))
structure SvD where
  par : List Int
  vs : List (ByteArray × Int)
  rs : List RecD
  plan : List TabD
  cost : LosD
  bud : LosD
  floor : Int
  asked : List TabD
def SvD.tbl (D : SvD) (t : TabD) : List Int := tblV D.par D.vs t D.rs
def gapN (D : SvD) (ts : List TabD) (t : TabD) : Nat → Int
  | 0 => 0
  | k + 1 => if kindT (tX ts k) t = true then gapC (D.tbl t) (D.tbl (tX ts k)) (gapN D ts t k) (D.tbl (tX ts k)).length else gapN D ts t k
def gapV (D : SvD) (ts : List TabD) (t : TabD) : Int := gapN D ts t ts.length
def fewB' (n floor : Int) : Bool := decide (0 < n) && decide (n < floor)
/-- The code of a table when some were answered. -/
def codeV (D : SvD) (ts : List TabD) (t : TabD) : Int :=
  if tabB D.par D.vs t = false then 1
  else if fndT D.plan t < 0 then 2
  else if 0 ≤ fndT ts t then 0
  else if fitsB D.cost D.bud (ts.length + 1) = false then 3
  else if 0 ≤ t.sum then 0
  else if fewB' (fewO (D.tbl t) (D.tbl t).length) D.floor = true then 4
  else if fewB' (gapV D ts t) D.floor = true then 5
  else 0
def surB (ps : List Int) (vs : List (ByteArray × Int)) (rs : List RecD) : Bool := dataB vs rs && allTo (fun j => atLeaf ps (rA rs j)) rs.length
def planOk (D : SvD) (i : Nat) : Bool := tabB D.par D.vs (tX D.plan i) && decide (fndT (D.plan.take i) (tX D.plan i) < 0)
def askOk (D : SvD) (i : Nat) : Bool := decide (fndT (D.asked.take i) (tX D.asked i) < 0) && (codeV D (D.asked.take i) (tX D.asked i) == 0)
def svB (D : SvD) : Bool :=
  geoB D.par && (schB D.vs && (surB D.par D.vs D.rs && (decide (D.plan.length ≤ 20) && (losB D.cost && (losB D.bud && (inR D.floor 0 40 && (allTo (planOk D) D.plan.length && allTo (askOk D) D.asked.length)))))))
end Go.Proofs.YtfanpbfmnckmnaaGreat
