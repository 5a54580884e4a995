/- A server copied by the reference; printed by gjo.py. -/
import Derived.Test.YtfanpbfmnckmnaaGreatYx
import Derived.Deep.CutBlock
import Derived.Deep.DeepCutAuto
import Derived.Deep.RegionHeld3
namespace Go.Proofs.YtfanpbfmnckmnaaGreat
open Go.RowKit

/-- A list of variables appended to an empty one, at a step of a region. -/
theorem step_appSch {W : World} {ops : Array Oper} {o : Oper} {a : Act} {Q : Exit → Act → World → Prop} {K : Act → World → Prop} {E : Prop} (hgd : o.guard = none) (s x : Operand)
    (ho : o.op = .call { callee := .builtin .append, args := #[s, x], argTypes := #[37, 37] })
    (g : Nat) (hs : a.eval s = .slice (some ⟨g, 0, none⟩) 0 0) (hg : W.heap[g]? = some (.cells #[] 133 (0, 0))) (A : Option Addr) (n c : Nat) (vs : List (ByteArray × Int)) (hx : a.eval x = .slice A n c) (hr : SchR W A n c vs) (h0 : 0 < n)
    (h : ∀ A2 c2 w', OwnV w' g w'.heap.size A2 n c2 vs → n ≤ c2 → W.grownBy w' (some g) → K (a.put o.dst (.slice A2 n c2)) w') :
    if Region.wanted o (yielded ops a.tmps) = true then Oper.wp Tryz.prog o a W K Q else E := by
  have hw : Region.wanted o (yielded ops a.tmps) = true := by simp [Region.wanted, hgd]
  rw [if_pos hw]
  obtain ⟨i0, hi, hz0, hz1, hz2⟩ := info_parts Tryz.infoVariable
  obtain ⟨ad, rfl, _⟩ := hr.v.at_ h0
  have hn := hr.bd
  have hl := hr.v.1
  have o0 : W.ownsRow g 133 2 (.slice (some ⟨g, 0, none⟩) 0 0) 0 [] := ⟨by simp, .inr ⟨g, 0, #[], rfl, Nat.le_refl _, hg, Nat.zero_le _, Nat.zero_le _, rfl, by simp⟩⟩
  refine wp_append_own _ s x 37 ho g 133 i0 _ 2 24 Tryz.underlying37 hi hz0 hz1 hz2 rfl (by omega) (.slice (some ⟨g, 0, none⟩) 0 0) 0 [] hs o0 ad n c (vcells vs) hx (by rw [vcells_len, hl]) (vcells_read hr.v) (vcells_one vs) (by unfold maxLen; omega) (by omega) (Nat.le_of_lt (lt_of_block hg)) ?_
  intro v' w' hown hgr _
  simp only [Nat.zero_add, List.nil_append] at hown
  rcases hown.2 with ⟨h1, h2⟩ | ⟨g', cap, cur, e, _, _, h3, _⟩
  · omega
  · subst e
    exact h _ cap w' ⟨hown, fun k hk => (row_ge hown k hk).2, hn⟩ h3 (by simpa [Value.ownBlock] using hgr)
theorem bel_al {w u : World} {o : Obj} (h : Below w.heap.size w u) : Below w.heap.size w (u.alloc o) := h.trans ((below_new u o).mono h.size)
theorem bel_dr {w u : World} (h : Below w.heap.size w u) : Below w.heap.size w u.drew := h.trans ((Below.refl u.heap.size u).drew.mono h.size)
theorem bel_c {w u v : World} (h : Below w.heap.size w u) (k : Below u.heap.size u v) : Below w.heap.size w v := h.trans (k.mono h.size)
theorem box_al {u : World} {o o2 : Obj} {b : Nat} (h : u.heap[b]? = some o2) : (u.alloc o).heap[b]? = some o2 := bxb h (below_new u o)
theorem box_dr {u : World} {o2 : Obj} {b : Nat} (h : u.heap[b]? = some o2) : u.drew.heap[b]? = some o2 := h
theorem box_gr {u v : World} {o2 : Obj} {b g : Nat} (h : u.heap[b]? = some o2) (k : u.grownBy v (some g)) (hb : b ≠ g) : v.heap[b]? = some o2 := by
  rw [k.block b (lt_of_block h) (fun e => by injection e with e; omega)]; exact h
theorem bel_gr {w u v : World} {g : Nat} (h : Below w.heap.size w u) (k : u.grownBy v (some g)) (hg : w.heap.size ≤ g) : Below w.heap.size w v := h.grown k h.size (fun j hj => by injection hj with hj; omega)
theorem ownI_al {u : World} {o : Obj} {lo hi n c : Nat} {A : Option Addr} {xs : List Int} (h : OwnI u lo hi A n c xs) : OwnI (u.alloc o) lo hi A n c xs := h.below (below_new u o)
theorem ownI_dr {u : World} {lo hi n c : Nat} {A : Option Addr} {xs : List Int} (h : OwnI u lo hi A n c xs) : OwnI u.drew lo hi A n c xs := h.drew
theorem ownI_gr {u v : World} {lo hi n c g : Nat} {A : Option Addr} {xs : List Int} (h : OwnI u lo hi A n c xs) (hg : u.heap[g]? = some (.cells #[] 133 (0, 0))) (k : u.grownBy v (some g)) : OwnI v lo hi A n c xs :=
  ⟨h.own.keep fun j hA hj => by
    refine k.block j hj (fun e => ?_)
    injection e with e
    subst e
    exact own_ne h.own hg (by decide) (by rw [hA]; rfl), h.top, h.small⟩
theorem box_nA (w : World) (cs : Array Value) (T : TypeId) {k : Nat} (h : k = w.heap.size) : (w.alloc (.cells cs T)).heap[k]? = some (.cells cs T (0, 0)) := by subst h; exact box_new w cs T
theorem svc {P A Z Y Q : Option Addr} {g cg n c m cm p cp q cq b : Nat} {D : SvD} {W : World} (h : W.heap[b]? = some (.cells #[.slice P g cg, .slice A n c, .slice Z m cm, .slice Y p cp, .int .i64 D.cost.a, .int .i64 D.cost.b, .int .i64 D.cost.c, .int .i64 D.cost.d, .int .i64 D.bud.a, .int .i64 D.bud.b, .int .i64 D.bud.c, .int .i64 D.bud.d, .int .i64 D.floor, .slice Q q cq] 44 (0, 0))) : W.cell? ⟨b, 0, none⟩ = some (.slice P g cg) ∧ W.cell? ⟨b, 1, none⟩ = some (.slice A n c) ∧ W.cell? ⟨b, 3, none⟩ = some (.slice Y p cp) ∧ W.cell? ⟨b, 4, none⟩ = some (.int .i64 D.cost.a) ∧ W.cell? ⟨b, 5, none⟩ = some (.int .i64 D.cost.b) ∧ W.cell? ⟨b, 6, none⟩ = some (.int .i64 D.cost.c) ∧ W.cell? ⟨b, 7, none⟩ = some (.int .i64 D.cost.d) ∧ W.cell? ⟨b, 8, none⟩ = some (.int .i64 D.bud.a) ∧ W.cell? ⟨b, 9, none⟩ = some (.int .i64 D.bud.b) ∧ W.cell? ⟨b, 10, none⟩ = some (.int .i64 D.bud.c) ∧ W.cell? ⟨b, 11, none⟩ = some (.int .i64 D.bud.d) ∧ W.cell? ⟨b, 12, none⟩ = some (.int .i64 D.floor) ∧ W.cell? ⟨b, 13, none⟩ = some (.slice Q q cq) :=
  ⟨bxc h 0 _ rfl, bxc h 1 _ rfl, bxc h 3 _ rfl, bxc h 4 _ rfl, bxc h 5 _ rfl, bxc h 6 _ rfl, bxc h 7 _ rfl, bxc h 8 _ rfl, bxc h 9 _ rfl, bxc h 10 _ rfl, bxc h 11 _ rfl, bxc h 12 _ rfl, bxc h 13 _ rfl⟩

theorem ownV_al {u : World} {o : Obj} {lo hi n c : Nat} {A : Option Addr} {vs : List (ByteArray × Int)} (h : OwnV u lo hi A n c vs) : OwnV (u.alloc o) lo hi A n c vs := h.below (below_new u o)
theorem dtl_al {u : World} {o : Obj} {lo n c : Nat} {A : Option Addr} {ts : List TabD} (h : DTl u lo A n c ts) : DTl (u.alloc o) lo A n c ts := h.below (below_new u o)
/-- What was copied, so far. -/
structure JoF (u0 W : World) (P1 A1 Y1 Q1 : Option Addr) (g cg1 n c1 p cp1 q cq1 : Nat) (D : SvD) : Prop where
  oI : ∃ lo hi, OwnI W lo hi P1 g cg1 D.par
  oV : ∃ lo hi, OwnV W lo hi A1 n c1 D.vs
  hc : n ≤ c1
  dY : ∃ lo, DTl W lo Y1 p cp1 D.plan
  dQ : DTl W u0.heap.size Q1 q cq1 D.asked
  bl : Below u0.heap.size u0 W
/-- The new server's box. -/
def JoR (u0 : World) (g n p q : Nat) (D : SvD) (v : Value) (wx : World) : Prop := ∃ (gx : Nat) (P1 A1 Y1 Q1 : Option Addr) (cg1 c1 cp1 cq1 : Nat), v = .pointer (some ⟨gx, 0, none⟩) ∧ u0.heap.size ≤ gx ∧ wx.heap[gx]? = some (.cells #[.slice P1 g cg1, .slice A1 n c1, .slice none 0 0, .slice Y1 p cp1, .int .i64 D.cost.a, .int .i64 D.cost.b, .int .i64 D.cost.c, .int .i64 D.cost.d, .int .i64 D.bud.a, .int .i64 D.bud.b, .int .i64 D.bud.c, .int .i64 D.bud.d, .int .i64 D.floor, .slice Q1 q cq1] 44 (0, 0)) ∧ JoF u0 wx P1 A1 Y1 Q1 g cg1 n c1 p cp1 q cq1 D
section
variable {u0 W : World} {P1 A1 Y1 Q1 : Option Addr} {g cg1 n c1 p cp1 q cq1 gx : Nat} {D : SvD}
theorem JoR.new (h : JoF u0 W P1 A1 Y1 Q1 g cg1 n c1 p cp1 q cq1 D) : JoR u0 g n p q D (.pointer (some ⟨W.heap.size, 0, none⟩)) (W.alloc (.cells #[.slice P1 g cg1, .slice A1 n c1, .slice none 0 0, .slice Y1 p cp1, .int .i64 D.cost.a, .int .i64 D.cost.b, .int .i64 D.cost.c, .int .i64 D.cost.d, .int .i64 D.bud.a, .int .i64 D.bud.b, .int .i64 D.bud.c, .int .i64 D.bud.d, .int .i64 D.floor, .slice Q1 q cq1] 44)) := by
  obtain ⟨⟨l1, h1, oI⟩, ⟨l2, h2, oV⟩, hc, ⟨l3, dY⟩, dQ, bl⟩ := h
  have b := below_new W (.cells #[.slice P1 g cg1, .slice A1 n c1, .slice none 0 0, .slice Y1 p cp1, .int .i64 D.cost.a, .int .i64 D.cost.b, .int .i64 D.cost.c, .int .i64 D.cost.d, .int .i64 D.bud.a, .int .i64 D.bud.b, .int .i64 D.bud.c, .int .i64 D.bud.d, .int .i64 D.floor, .slice Q1 q cq1] 44)
  exact ⟨W.heap.size, P1, A1, Y1, Q1, cg1, c1, cp1, cq1, rfl, bl.size, box_new _ _ _, ⟨_, _, oI.below b⟩, ⟨_, _, oV.below b⟩, hc, ⟨_, dY.below b⟩, dQ.below b, bel_al bl⟩
theorem JoR.fill {z0 z1 z2 z3 z4 z5 z6 z7 z8 z9 z10 z11 z12 z13 : Value} (h : JoF u0 W P1 A1 Y1 Q1 g cg1 n c1 p cp1 q cq1 D) (hx : W.heap[gx]? = some (.cells #[z0, z1, z2, z3, z4, z5, z6, z7, z8, z9, z10, z11, z12, z13] 44 (0, 0))) (hg : u0.heap.size ≤ gx) : JoR u0 g n p q D (.pointer (some ⟨gx, 0, none⟩)) (((((((((((((((W).setCell ⟨gx, 0, none⟩ (.slice P1 g cg1)).setCell ⟨gx, 1, none⟩ (.slice A1 n c1)).setCell ⟨gx, 2, none⟩ (.slice none 0 0)).setCell ⟨gx, 3, none⟩ (.slice Y1 p cp1)).setCell ⟨gx, 4, none⟩ (.int .i64 D.cost.a)).setCell ⟨gx, 5, none⟩ (.int .i64 D.cost.b)).setCell ⟨gx, 6, none⟩ (.int .i64 D.cost.c)).setCell ⟨gx, 7, none⟩ (.int .i64 D.cost.d)).setCell ⟨gx, 8, none⟩ (.int .i64 D.bud.a)).setCell ⟨gx, 9, none⟩ (.int .i64 D.bud.b)).setCell ⟨gx, 10, none⟩ (.int .i64 D.bud.c)).setCell ⟨gx, 11, none⟩ (.int .i64 D.bud.d)).setCell ⟨gx, 12, none⟩ (.int .i64 D.floor)).setCell ⟨gx, 13, none⟩ (.slice Q1 q cq1)) := by
  obtain ⟨⟨l1, h1, oI⟩, ⟨l2, h2, oV⟩, hc, ⟨l3, dY⟩, dQ, bl⟩ := h
  refine ⟨gx, P1, A1, Y1, Q1, cg1, c1, cp1, cq1, rfl, hg, fill14n hx, ?_⟩
  rw [← puts14]
  have hn := fun j (hj : j ≠ gx) => puts_ne (g := gx) [(0, .slice P1 g cg1), (1, .slice A1 n c1), (2, .slice none 0 0), (3, .slice Y1 p cp1), (4, .int .i64 D.cost.a), (5, .int .i64 D.cost.b), (6, .int .i64 D.cost.c), (7, .int .i64 D.cost.d), (8, .int .i64 D.bud.a), (9, .int .i64 D.bud.b), (10, .int .i64 D.bud.c), (11, .int .i64 D.bud.d), (12, .int .i64 D.floor), (13, .slice Q1 q cq1)] W hj
  have hz := puts_size (g := gx) [(0, .slice P1 g cg1), (1, .slice A1 n c1), (2, .slice none 0 0), (3, .slice Y1 p cp1), (4, .int .i64 D.cost.a), (5, .int .i64 D.cost.b), (6, .int .i64 D.cost.c), (7, .int .i64 D.cost.d), (8, .int .i64 D.bud.a), (9, .int .i64 D.bud.b), (10, .int .i64 D.bud.c), (11, .int .i64 D.bud.d), (12, .int .i64 D.floor), (13, .slice Q1 q cq1)] W
  exact ⟨⟨_, _, oI.offT hx (by decide) hn⟩, ⟨_, _, oV.offT hx (by decide) hn⟩, hc, ⟨_, dY.off hx (by decide) (by decide) hn hz⟩, dQ.off hx (by decide) (by decide) hn hz, puts_below (g := gx) [(0, .slice P1 g cg1), (1, .slice A1 n c1), (2, .slice none 0 0), (3, .slice Y1 p cp1), (4, .int .i64 D.cost.a), (5, .int .i64 D.cost.b), (6, .int .i64 D.cost.c), (7, .int .i64 D.cost.d), (8, .int .i64 D.bud.a), (9, .int .i64 D.bud.b), (10, .int .i64 D.bud.c), (11, .int .i64 D.bud.d), (12, .int .i64 D.floor), (13, .slice Q1 q cq1)] W bl hg⟩
end

theorem take_rX {rs : List RecD} {k : Nat} (h : k < rs.length) : rs.take k ++ [rX rs k] = rs.take (k + 1) := by
  rw [List.take_add_one, List.getElem?_eq_getElem h]; unfold rX; simp [List.getElem?_eq_getElem h]
theorem own_farR {w w' : World} {lo lo2 hi n c m cm : Nat} {A Z : Option Addr} {xs : List Int} {ys : List Value} (h : OwnI w lo hi A n c xs) (ho : w.ownsRow lo2 135 3 (.slice Z m cm) m ys) (hg : w.grownBy w' (rowOf Z)) : OwnI w' lo hi A n c xs :=
  ⟨h.own.far hg fun q hA e => row_ne2 h.own ho (by decide) (by rw [hA]; rfl) e, h.top, h.small⟩
theorem ownV_farR {w w' : World} {lo lo2 hi n c m cm : Nat} {A Z : Option Addr} {vs : List (ByteArray × Int)} {ys : List Value} (h : OwnV w lo hi A n c vs) (ho : w.ownsRow lo2 135 3 (.slice Z m cm) m ys) (hg : w.grownBy w' (rowOf Z)) : OwnV w' lo hi A n c vs :=
  ⟨row_keep h.own fun k _ hA hk => hg.block k hk (fun e => row_ne_row h.own ho (by decide) hA e.symm), h.top, h.small⟩
theorem dtl_farR {w w' : World} {lo lo2 n c m cm : Nat} {A Z : Option Addr} {ts : List TabD} {ys : List Value} (h : DTl w lo A n c ts) (ho : w.ownsRow lo2 135 3 (.slice Z m cm) m ys) (hg : w.grownBy w' (rowOf Z)) : DTl w' lo A n c ts :=
  h.far hg (fun r hr => by obtain ⟨zs, hz⟩ := h.rows; exact row_ne_row hz ho (by decide) hr) (fun hv r hr => row_ne2 hv ho (by decide) hr)
/-- The new server while its records are copied. -/
structure JoS (u0 W : World) (gx : Nat) (P1 A1 Z1 Y1 Q1 : Option Addr) (g cg1 n c1 k cz p cp1 q cq1 : Nat) (D : SvD) (rs : List RecD) : Prop where
  bx : W.heap[gx]? = some (.cells #[.slice P1 g cg1, .slice A1 n c1, .slice Z1 k cz, .slice Y1 p cp1, .int .i64 D.cost.a, .int .i64 D.cost.b, .int .i64 D.cost.c, .int .i64 D.cost.d, .int .i64 D.bud.a, .int .i64 D.bud.b, .int .i64 D.bud.c, .int .i64 D.bud.d, .int .i64 D.floor, .slice Q1 q cq1] 44 (0, 0))
  gt : u0.heap.size ≤ gx
  f : JoF u0 W P1 A1 Y1 Q1 g cg1 n c1 p cp1 q cq1 D
  dz : DRc W u0.heap.size Z1 k cz rs
section
variable {u0 W W' : World} {P1 A1 Z1 Y1 Q1 : Option Addr} {g cg1 n c1 k cz p cp1 q cq1 gx : Nat} {D : SvD} {rs : List RecD}
theorem JoF.below (h : JoF u0 W P1 A1 Y1 Q1 g cg1 n c1 p cp1 q cq1 D) (b : Below W.heap.size W W') : JoF u0 W' P1 A1 Y1 Q1 g cg1 n c1 p cp1 q cq1 D := by
  obtain ⟨⟨l1, h1, oI⟩, ⟨l2, h2, oV⟩, hc, ⟨l3, dY⟩, dQ, bl⟩ := h
  exact ⟨⟨_, _, oI.below b⟩, ⟨_, _, oV.below b⟩, hc, ⟨_, dY.below b⟩, dQ.below b, bel_c bl b⟩
theorem JoS.below (h : JoS u0 W gx P1 A1 Z1 Y1 Q1 g cg1 n c1 k cz p cp1 q cq1 D rs) (b : Below W.heap.size W W') : JoS u0 W' gx P1 A1 Z1 Y1 Q1 g cg1 n c1 k cz p cp1 q cq1 D rs := ⟨bxb h.bx b, h.gt, h.f.below b, h.dz.below b⟩
/-- A record more. -/
theorem JoS.snoc {Z2 V : Option Addr} {c2 l cv : Nat} {r : RecD} {ys : List Value} (h : JoS u0 W gx P1 A1 Z1 Y1 Q1 g cg1 n c1 k cz p cp1 q cq1 D rs) (hy : W.ownsRow u0.heap.size 135 3 (.slice Z1 k cz) k ys) (hv : OwnI W u0.heap.size W.heap.size V l cv r.vals) (hg : W.grownBy W' (rowOf Z1)) (hn : W'.ownsRow u0.heap.size 135 3 (.slice Z2 (k + 1) c2) (k + 1) (ys ++ [.int .i64 r.area, .int .i64 r.house, .slice V l cv])) :
    W'.heap[gx]? = some (.cells #[.slice P1 g cg1, .slice A1 n c1, .slice Z1 k cz, .slice Y1 p cp1, .int .i64 D.cost.a, .int .i64 D.cost.b, .int .i64 D.cost.c, .int .i64 D.cost.d, .int .i64 D.bud.a, .int .i64 D.bud.b, .int .i64 D.bud.c, .int .i64 D.bud.d, .int .i64 D.floor, .slice Q1 q cq1] 44 (0, 0)) ∧ JoS u0 (W'.setCell ⟨gx, 2, none⟩ (.slice Z2 (k + 1) c2)) gx P1 A1 Z2 Y1 Q1 g cg1 n c1 (k + 1) c2 p cp1 q cq1 D (rs ++ [r]) := by
  obtain ⟨⟨l1, h1, oI⟩, ⟨l2, h2, oV⟩, hc, ⟨l3, dY⟩, dQ, bl⟩ := h.f
  have hb : W'.heap[gx]? = some (.cells #[.slice P1 g cg1, .slice A1 n c1, .slice Z1 k cz, .slice Y1 p cp1, .int .i64 D.cost.a, .int .i64 D.cost.b, .int .i64 D.cost.c, .int .i64 D.cost.d, .int .i64 D.bud.a, .int .i64 D.bud.b, .int .i64 D.bud.c, .int .i64 D.bud.d, .int .i64 D.floor, .slice Q1 q cq1] 44 (0, 0)) := box_app2 h.bx hg (h.dz.ne_box h.bx (by decide))
  have e1 := fun j (hj : j ≠ gx) => puts_ne (g := gx) [(2, .slice Z2 (k + 1) c2)] W' hj
  have e2 := puts_size (g := gx) [(2, .slice Z2 (k + 1) c2)] W'
  have hd := h.dz.snoc hy hv hg hn
  have hbl : Below u0.heap.size u0 W' := bl.grown hg bl.size (fun j hj => (h.dz.row_ge j hj).1)
  refine ⟨hb, box_set hb 2 _, h.gt, ⟨⟨_, _, (own_farR oI hy hg).offT hb (by decide) e1⟩, ⟨_, _, (ownV_farR oV hy hg).offT hb (by decide) e1⟩, hc, ⟨_, (dtl_farR dY hy hg).off hb (by decide) (by decide) e1 e2⟩, (dtl_farR dQ hy hg).off hb (by decide) (by decide) e1 e2, puts_below (g := gx) [(2, .slice Z2 (k + 1) c2)] W' hbl h.gt⟩, hd.off hb (by decide) (by decide) e1 e2⟩
end

set_option maxRecDepth 100000 in
set_option maxHeartbeats 4000000 in
theorem jOwn_any (P A Z Y Q : Option Addr) (g cg n c m cm p cp q cq : Nat) (D : SvD) (w : World) (hV : SvR w P A Z Y Q g n c m p cp q cq D) (hs : svB D = true) :
    Calls Tryz.prog 94 #[.agg #[.slice P g cg, .slice A n c, .slice Z m cm, .slice Y p cp, .int .i64 D.cost.a, .int .i64 D.cost.b, .int .i64 D.cost.c, .int .i64 D.cost.d, .int .i64 D.bud.a, .int .i64 D.bud.b, .int .i64 D.bud.c, .int .i64 D.bud.d, .int .i64 D.floor, .slice Q q cq]] w (CSv w g n m p q D) := by
  have h0 : 0 < n := (hV.sur.s.six (svB_parts hs).2.1).1
  have hg : g ≤ 1000000 := by have h1 := (geoB_of (svB_parts hs).1).most; rw [hV.sur.p.len] at h1; omega
  have hO := sv_ok hs
  have hpt : ∀ j, j < p → (tX D.plan j).vars.length ≤ 1000000 ∧ (tX D.plan j).wh.length ≤ 1000000 := fun j hj => tab_len hO (by have h1 := allTo_of (svB_parts hs).2.2.2.2.2.1 j (by rw [hV.plan.len]; exact hj); unfold planOk at h1; rw [Bool.and_eq_true] at h1; exact h1.1)
  have hqt : ∀ j, j < q → (tX D.asked j).vars.length ≤ 1000000 ∧ (tX D.asked j).wh.length ≤ 1000000 := fun j hj => tab_len hO (sv_asks hs hV.asked.len j hj)
  have HPT := Lib.hid hpt
  have HQT := Lib.hid hqt
  obtain ⟨b0, x1, x2⟩ := box_two w #[.slice P g cg, .slice A n c, .slice Z m cm, .slice Y p cp, .int .i64 D.cost.a, .int .i64 D.cost.b, .int .i64 D.cost.c, .int .i64 D.cost.d, .int .i64 D.bud.a, .int .i64 D.bud.b, .int .i64 D.bud.c, .int .i64 D.bud.d, .int .i64 D.floor, .slice Q q cq] #[.slice none 0 0, .slice none 0 0, .slice none 0 0, .slice none 0 0, .int .i64 0, .int .i64 0, .int .i64 0, .int .i64 0, .int .i64 0, .int .i64 0, .int .i64 0, .int .i64 0, .int .i64 0, .slice none 0 0] 44 44
  have HS := Lib.hid (show ((w.alloc (.cells #[.slice P g cg, .slice A n c, .slice Z m cm, .slice Y p cp, .int .i64 D.cost.a, .int .i64 D.cost.b, .int .i64 D.cost.c, .int .i64 D.cost.d, .int .i64 D.bud.a, .int .i64 D.bud.b, .int .i64 D.bud.c, .int .i64 D.bud.d, .int .i64 D.floor, .slice Q q cq] 44)).alloc (.cells #[.slice none 0 0, .slice none 0 0, .slice none 0 0, .slice none 0 0, .int .i64 0, .int .i64 0, .int .i64 0, .int .i64 0, .int .i64 0, .int .i64 0, .int .i64 0, .int .i64 0, .int .i64 0, .slice none 0 0] 44)).heap.size = w.heap.size + 1 + 1 by simp)
  have X1 := Lib.hid x1
  have X2 := Lib.hid x2
  have B0 := Lib.hid b0
  clear b0 x1 x2 hpt hqt
  go_enter Tryz.func94, Tryz.ntmps94
  go_wp2_with fail
  generalize ((w.alloc (.cells #[.slice P g cg, .slice A n c, .slice Z m cm, .slice Y p cp, .int .i64 D.cost.a, .int .i64 D.cost.b, .int .i64 D.cost.c, .int .i64 D.cost.d, .int .i64 D.bud.a, .int .i64 D.bud.b, .int .i64 D.bud.c, .int .i64 D.bud.d, .int .i64 D.floor, .slice Q q cq] 44)).alloc (.cells #[.slice none 0 0, .slice none 0 0, .slice none 0 0, .slice none 0 0, .int .i64 0, .int .i64 0, .int .i64 0, .int .i64 0, .int .i64 0, .int .i64 0, .int .i64 0, .int .i64 0, .int .i64 0, .slice none 0 0] 44)) = u0 at *
  have hs0 : w.heap.size + 1 + 1 ≤ u0.heap.size := Nat.le_of_eq HS.out.symm
  have HV := Lib.hid (hV.below B0.out)
  have HB := B0
  clear hV B0
  have hV := HV.out
  have B0 := Lib.hid (Below.refl u0.heap.size u0)
  go_cut [3] (fun v3 wx => JoR u0 g n p q D v3 wx)
  case first =>
    go_region_held3 (fun w' => w'.cell? ⟨w.heap.size, 0, none⟩ = some (.slice P g cg) ∧ w'.cell? ⟨w.heap.size, 1, none⟩ = some (.slice A n c) ∧ w'.cell? ⟨w.heap.size, 3, none⟩ = some (.slice Y p cp) ∧ w'.cell? ⟨w.heap.size, 4, none⟩ = some (.int .i64 D.cost.a) ∧ w'.cell? ⟨w.heap.size, 5, none⟩ = some (.int .i64 D.cost.b) ∧ w'.cell? ⟨w.heap.size, 6, none⟩ = some (.int .i64 D.cost.c) ∧ w'.cell? ⟨w.heap.size, 7, none⟩ = some (.int .i64 D.cost.d) ∧ w'.cell? ⟨w.heap.size, 8, none⟩ = some (.int .i64 D.bud.a) ∧ w'.cell? ⟨w.heap.size, 9, none⟩ = some (.int .i64 D.bud.b) ∧ w'.cell? ⟨w.heap.size, 10, none⟩ = some (.int .i64 D.bud.c) ∧ w'.cell? ⟨w.heap.size, 11, none⟩ = some (.int .i64 D.bud.d) ∧ w'.cell? ⟨w.heap.size, 12, none⟩ = some (.int .i64 D.floor) ∧ w'.cell? ⟨w.heap.size, 13, none⟩ = some (.slice Q q cq)) (first | with_reducible exact svc (far14 (box_al (bxb X1.out B3.out)) (by have := lt_of_block X1.out; omega)) | with_reducible exact svc (far14 (bxb X1.out B3.out) (by have := lt_of_block X1.out; omega)) | with_reducible exact svc (by exact bxb X1.out (by (repeat (first | with_reducible exact B3.out | with_reducible exact B2.out | with_reducible exact B4.out | with_reducible exact B1.out | with_reducible exact B0.out | with_reducible apply bel_al | with_reducible apply bel_dr)))) | go_keep) ((first | (go_at_call 151; with_reducible refine (l1Own_any P g cg D.par _ (hV.sur.p.below (by (repeat (first | with_reducible exact B3.out | with_reducible exact B2.out | with_reducible exact B4.out | with_reducible exact B1.out | with_reducible exact B0.out | with_reducible apply bel_al | with_reducible apply bel_dr)))).i hg).mono ?_; rintro e w1 ⟨P1, cg1, rfl, o1, b1⟩; have B1 : Hid (Below u0.heap.size u0 w1) := Lib.hid (bel_c (by (repeat (first | with_reducible exact B3.out | with_reducible exact B2.out | with_reducible exact B4.out | with_reducible exact B1.out | with_reducible exact B0.out | with_reducible apply bel_al | with_reducible apply bel_dr))) b1); have z1 : u0.heap.size ≤ w1.heap.size := B1.out.size; (first | (refine (fun (V1 : Hid (w1.heap[u0.heap.size]? = some (.cells #[] 133 (0, 0)))) => ?_) (Lib.hid (bxb ?hb b1)); case hb => ((repeat (first | (with_reducible refine box_nA _ _ _ ?_; first | rfl | (simp; done)) | with_reducible apply box_al | with_reducible apply box_dr)); done)) | (refine (fun (V1 : Hid (w1.heap[u0.heap.size + 1]? = some (.cells #[] 133 (0, 0)))) => ?_) (Lib.hid (bxb ?hb b1)); case hb => ((repeat (first | (with_reducible refine box_nA _ _ _ ?_; first | rfl | (simp; done)) | with_reducible apply box_al | with_reducible apply box_dr)); done)) | skip); (first | (have KS := Lib.hid (bxb KS.out b1)) | (have KS := Lib.hid (bxb (box_al KS.out) b1)) | (refine (fun (KS : Hid (w1.heap[u0.heap.size]? = some (.cells #[.slice none 0 0, .slice none 0 0, .slice none 0 0, .slice none 0 0, .int .i64 0, .int .i64 0, .int .i64 0, .int .i64 0, .int .i64 0, .int .i64 0, .int .i64 0, .int .i64 0, .int .i64 0, .slice none 0 0] 44 (0, 0)))) => ?_) (Lib.hid (bxb ?hb b1)); case hb => ((repeat (first | (with_reducible refine box_nA _ _ _ ?_; first | rfl | (simp; done)) | with_reducible apply box_al | with_reducible apply box_dr)); done)) | (refine (fun (KS : Hid (w1.heap[u0.heap.size + 1]? = some (.cells #[.slice none 0 0, .slice none 0 0, .slice none 0 0, .slice none 0 0, .int .i64 0, .int .i64 0, .int .i64 0, .int .i64 0, .int .i64 0, .int .i64 0, .int .i64 0, .int .i64 0, .int .i64 0, .slice none 0 0] 44 (0, 0)))) => ?_) (Lib.hid (bxb ?hb b1)); case hb => ((repeat (first | (with_reducible refine box_nA _ _ _ ?_; first | rfl | (simp; done)) | with_reducible apply box_al | with_reducible apply box_dr)); done)) | skip)) | (go_at_call 149; with_reducible refine (jTables_any Y p cp D.plan _ (hV.plan.below (by (repeat (first | with_reducible exact B3.out | with_reducible exact B2.out | with_reducible exact B4.out | with_reducible exact B1.out | with_reducible exact B0.out | with_reducible apply bel_al | with_reducible apply bel_dr)))) HPT.out).mono ?_; rintro e w2 ⟨Y1, cp1, rfl, o2, b2⟩; have B2 : Hid (Below u0.heap.size u0 w2) := Lib.hid (bel_c (by (repeat (first | with_reducible exact B3.out | with_reducible exact B2.out | with_reducible exact B4.out | with_reducible exact B1.out | with_reducible exact B0.out | with_reducible apply bel_al | with_reducible apply bel_dr))) b2); have z2 : u0.heap.size ≤ w2.heap.size := B2.out.size; have O2 := Lib.hid (OwnI.below (by (repeat (first | with_reducible exact O2.out | with_reducible exact O4.out | with_reducible exact o1 | with_reducible apply ownI_al | with_reducible apply ownI_dr))) b2); have OV2 := Lib.hid (OwnV.below (by (repeat (first | with_reducible exact OV2.out | with_reducible exact OV4.out | with_reducible apply ownV_al))) b2); (first | (have KS := Lib.hid (bxb KS.out b2)) | (have KS := Lib.hid (bxb (box_al KS.out) b2)) | (refine (fun (KS : Hid (w2.heap[w4.heap.size]? = some (.cells #[.slice none 0 0, .slice none 0 0, .slice none 0 0, .slice none 0 0, .int .i64 0, .int .i64 0, .int .i64 0, .int .i64 0, .int .i64 0, .int .i64 0, .int .i64 0, .int .i64 0, .int .i64 0, .slice none 0 0] 44 (0, 0)))) => ?_) (Lib.hid (bxb ?hb b2)); case hb => ((repeat (first | (with_reducible refine box_nA _ _ _ ?_; first | rfl | (simp; done)) | with_reducible apply box_al | with_reducible apply box_dr)); done)) | (refine (fun (KS : Hid (w2.heap[w4.heap.size + 1]? = some (.cells #[.slice none 0 0, .slice none 0 0, .slice none 0 0, .slice none 0 0, .int .i64 0, .int .i64 0, .int .i64 0, .int .i64 0, .int .i64 0, .int .i64 0, .int .i64 0, .int .i64 0, .int .i64 0, .slice none 0 0] 44 (0, 0)))) => ?_) (Lib.hid (bxb ?hb b2)); case hb => ((repeat (first | (with_reducible refine box_nA _ _ _ ?_; first | rfl | (simp; done)) | with_reducible apply box_al | with_reducible apply box_dr)); done)) | skip)) | (go_at_call 149; with_reducible refine (jTables_any Q q cq D.asked _ (hV.asked.below (by (repeat (first | with_reducible exact B3.out | with_reducible exact B2.out | with_reducible exact B4.out | with_reducible exact B1.out | with_reducible exact B0.out | with_reducible apply bel_al | with_reducible apply bel_dr)))) HQT.out).mono ?_; rintro e w3 ⟨Q1, cq1, rfl, o3, b3⟩; have B3 : Hid (Below u0.heap.size u0 w3) := Lib.hid (bel_c (by (repeat (first | with_reducible exact B3.out | with_reducible exact B2.out | with_reducible exact B4.out | with_reducible exact B1.out | with_reducible exact B0.out | with_reducible apply bel_al | with_reducible apply bel_dr))) b3); have z3 : u0.heap.size ≤ w3.heap.size := B3.out.size; have O3 := Lib.hid (OwnI.below (by (repeat (first | with_reducible exact O2.out | with_reducible exact O4.out | with_reducible exact o1 | with_reducible apply ownI_al | with_reducible apply ownI_dr))) b3); have OV3 := Lib.hid (OwnV.below (by (repeat (first | with_reducible exact OV2.out | with_reducible exact OV4.out | with_reducible apply ownV_al))) b3); have D3 := Lib.hid (DTl.below (by (repeat (first | with_reducible exact o2 | with_reducible apply dtl_al))) b3); have JF : Hid (JoF u0 w3 P1 A1 Y1 Q1 g cg1 n c1 p cp1 q cq1 D) := Lib.hid ⟨⟨_, _, O3.out⟩, ⟨_, _, OV3.out⟩, hc1, ⟨_, D3.out⟩, o3.mono (Below.size (w := u0) (by (repeat (first | with_reducible exact B3.out | with_reducible exact B2.out | with_reducible exact B4.out | with_reducible exact B1.out | with_reducible exact B0.out | with_reducible apply bel_al | with_reducible apply bel_dr)))), B3.out⟩; (first | (have KS := Lib.hid (bxb KS.out b3)) | (have KS := Lib.hid (bxb (box_al KS.out) b3)) | (refine (fun (KS : Hid (w3.heap[w2.heap.size]? = some (.cells #[.slice none 0 0, .slice none 0 0, .slice none 0 0, .slice none 0 0, .int .i64 0, .int .i64 0, .int .i64 0, .int .i64 0, .int .i64 0, .int .i64 0, .int .i64 0, .int .i64 0, .int .i64 0, .slice none 0 0] 44 (0, 0)))) => ?_) (Lib.hid (bxb ?hb b3)); case hb => ((repeat (first | (with_reducible refine box_nA _ _ _ ?_; first | rfl | (simp; done)) | with_reducible apply box_al | with_reducible apply box_dr)); done)) | (refine (fun (KS : Hid (w3.heap[w2.heap.size + 1]? = some (.cells #[.slice none 0 0, .slice none 0 0, .slice none 0 0, .slice none 0 0, .int .i64 0, .int .i64 0, .int .i64 0, .int .i64 0, .int .i64 0, .int .i64 0, .int .i64 0, .int .i64 0, .int .i64 0, .slice none 0 0] 44 (0, 0)))) => ?_) (Lib.hid (bxb ?hb b3)); case hb => ((repeat (first | (with_reducible refine box_nA _ _ _ ?_; first | rfl | (simp; done)) | with_reducible apply box_al | with_reducible apply box_dr)); done)) | skip); (first | (have sp0 := bxc KS.out 0 _ rfl; have sg0 := bxf KS.out 0; have sp1 := bxc KS.out 1 _ rfl; have sg1 := bxf KS.out 1; have sp2 := bxc KS.out 2 _ rfl; have sg2 := bxf KS.out 2; have sp3 := bxc KS.out 3 _ rfl; have sg3 := bxf KS.out 3; have sp4 := bxc KS.out 4 _ rfl; have sg4 := bxf KS.out 4; have sp5 := bxc KS.out 5 _ rfl; have sg5 := bxf KS.out 5; have sp6 := bxc KS.out 6 _ rfl; have sg6 := bxf KS.out 6; have sp7 := bxc KS.out 7 _ rfl; have sg7 := bxf KS.out 7; have sp8 := bxc KS.out 8 _ rfl; have sg8 := bxf KS.out 8; have sp9 := bxc KS.out 9 _ rfl; have sg9 := bxf KS.out 9; have sp10 := bxc KS.out 10 _ rfl; have sg10 := bxf KS.out 10; have sp11 := bxc KS.out 11 _ rfl; have sg11 := bxf KS.out 11; have sp12 := bxc KS.out 12 _ rfl; have sg12 := bxf KS.out 12; have sp13 := bxc KS.out 13 _ rfl; have sg13 := bxf KS.out 13; have sl := lt_of_block KS.out) | skip)) | (refine step_appSch (by rfl) _ _ (by rfl) _ (by rfl) (by (repeat (first | with_reducible exact V1.out | (with_reducible refine box_nA _ _ _ ?_; first | rfl | (simp; done)) | with_reducible apply box_al | with_reducible apply box_dr)); done) A n c D.vs (by rfl) (hV.sur.s.below (by (repeat (first | with_reducible exact B3.out | with_reducible exact B2.out | with_reducible exact B4.out | with_reducible exact B1.out | with_reducible exact B0.out | with_reducible apply bel_al | with_reducible apply bel_dr)))) h0 ?_; intro A1 c1 w4 oA hc1 gr4; have B4 : Hid (Below u0.heap.size u0 w4) := Lib.hid (bel_gr (by (repeat (first | with_reducible exact B3.out | with_reducible exact B2.out | with_reducible exact B4.out | with_reducible exact B1.out | with_reducible exact B0.out | with_reducible apply bel_al | with_reducible apply bel_dr))) gr4 (by first | omega | (have hv9 := lt_of_block V1.out; omega))); have z4 : u0.heap.size ≤ w4.heap.size := B4.out.size; have O4 := Lib.hid (ownI_gr (by (repeat (first | with_reducible exact O2.out | with_reducible exact O4.out | with_reducible exact o1 | with_reducible apply ownI_al | with_reducible apply ownI_dr))) (by (repeat (first | with_reducible exact V1.out | (with_reducible refine box_nA _ _ _ ?_; first | rfl | (simp; done)) | with_reducible apply box_al | with_reducible apply box_dr)); done) gr4); have OV4 := Lib.hid oA; (first | (have KS := Lib.hid (box_gr KS.out gr4 (by omega))) | (have KS := Lib.hid (box_gr (box_al KS.out) gr4 (by omega))) | (have hk9 := lt_of_block KS.out; have KS := Lib.hid (box_gr (box_al KS.out) gr4 (by omega))) | (have hv9 := lt_of_block V1.out; have KS := Lib.hid (box_gr KS.out gr4 (by omega))) | (refine (fun (KS : Hid (w4.heap[w1.heap.size]? = some (.cells #[.slice none 0 0, .slice none 0 0, .slice none 0 0, .slice none 0 0, .int .i64 0, .int .i64 0, .int .i64 0, .int .i64 0, .int .i64 0, .int .i64 0, .int .i64 0, .int .i64 0, .int .i64 0, .slice none 0 0] 44 (0, 0)))) => ?_) (Lib.hid (box_gr ?hb gr4 ?hc)); (case hb => ((repeat (first | (with_reducible refine box_nA _ _ _ ?_; first | rfl | (simp; done)) | with_reducible apply box_al | with_reducible apply box_dr)); done)); (case hc => (first | omega | (have hv9 := lt_of_block V1.out; omega)))) | (refine (fun (KS : Hid (w4.heap[w1.heap.size + 1]? = some (.cells #[.slice none 0 0, .slice none 0 0, .slice none 0 0, .slice none 0 0, .int .i64 0, .int .i64 0, .int .i64 0, .int .i64 0, .int .i64 0, .int .i64 0, .int .i64 0, .int .i64 0, .int .i64 0, .slice none 0 0] 44 (0, 0)))) => ?_) (Lib.hid (box_gr ?hb gr4 ?hc)); (case hb => ((repeat (first | (with_reducible refine box_nA _ _ _ ?_; first | rfl | (simp; done)) | with_reducible apply box_al | with_reducible apply box_dr)); done)); (case hc => (first | omega | (have hv9 := lt_of_block V1.out; omega)))) | skip)) | fail))
    all_goals (go_wp2_with fail; go_meet)
    all_goals (first | with_reducible exact JoR.new JF.out | with_reducible exact JoR.fill JF.out KS.out (by omega))
  case rest =>
    obtain ⟨gx, P1, A1, Y1, Q1, cg1, c1, cp1, cq1, rfl, hgx, XG, hJF⟩ := hcut
    obtain ⟨i0, hi, hz0, hz1, hz2⟩ := info_parts Tryz.infoRecord
    have hmd := hV.sur.d.bd
    have hml := hV.sur.d.len
    have hrl : ∀ j, j < m → (rV D.rs j).length ≤ 1000000 := by
      intro j hj
      have h1 : dataB D.vs D.rs = true := by have h := (svB_parts hs).2.2.1; unfold surB at h; rw [Bool.and_eq_true] at h; exact h.1
      have h2 := (dataB_of h1).2 j (by rw [hml]; exact hj)
      unfold recOk recB at h2
      simp only [Bool.and_eq_true] at h2
      have h3 := (valsB_of h2.2.2).1
      have h4 := (schB_of (svB_parts hs).2.1).1
      omega
    have HRL := Lib.hid hrl
    have J0 : JoS u0 wc gx P1 A1 none Y1 Q1 g cg1 n c1 0 0 p cp1 q cq1 D (D.rs.take 0) := ⟨XG, hgx, hJF, DRc.nil_⟩
    have X1c := Lib.hid (bxb X1.out hJF.bl)
    clear XG hJF hrl HPT HQT
    have c2 := bxc X1c.out 2 _ rfl
    have l1 := lt_of_block X1c.out
    go_wp2
    clear c2 l1 X1c
    go_loopw [31] (fun i wr => ∃ (k : Nat) (Z1 : Option Addr) (cz : Nat), k ≤ m ∧ i = .int .i64 k ∧ JoS u0 wr gx P1 A1 Z1 Y1 Q1 g cg1 n c1 k cz p cp1 q cq1 D (D.rs.take k)) (fun i _ => m - (intOf i).toNat)
    case atStart => exact ⟨0, none, 0, Nat.zero_le _, rfl, J0⟩
    case round =>
      clear J0
      obtain ⟨k, Z1, cz, hk, rfl, hJ⟩ := hrel
      obtain ⟨wo, rfl⟩ : ∃ wo : World, wo = wr := ⟨_, rfl⟩
      by_cases hlt : k < m
      · obtain ⟨ad, rfl, u0_, u1_, V, l, d, u2_, hu⟩ := (hV.sur.d.below hJ.f.bl).r.at_ hlt
        have hl := HRL.out k hlt
        rw [hu.1] at hl
        have bk := below_new wo (.cells #[.int .i64 (rA D.rs k), .int .i64 (rH D.rs k), .slice V l d] 135)
        have XN := Lib.hid (box_new wo #[.int .i64 (rA D.rs k), .int .i64 (rH D.rs k), .slice V l d] 135)
        have HJ := Lib.hid (hJ.below bk)
        have HU := Lib.hid (hu.below bk)
        clear hJ hu
        have ln := lt_of_block XN.out
        have n0_ := bxc XN.out 0 _ rfl
        have n1_ := bxc XN.out 1 _ rfl
        have n2_ := bxc XN.out 2 _ rfl
        go_wp2_with fail
        clear ln n0_ n1_ n2_ u0_ u1_ u2_ bk
        generalize wo.alloc (.cells #[.int .i64 (rA D.rs k), .int .i64 (rH D.rs k), .slice V l d] 135) = w4 at *
        have hz4 : u0.heap.size ≤ w4.heap.size := HJ.out.f.bl.size
        have lg := lt_of_block HJ.out.bx
        have q2_ := bxc HJ.out.bx 2 _ rfl
        have ln := lt_of_block XN.out
        have n0_ := bxc XN.out 0 _ rfl
        have n1_ := bxc XN.out 1 _ rfl
        have n2_ := bxc XN.out 2 _ rfl
        have HUd := Lib.hid (HU.out.below (Below.refl _ _).drew)
        go_region_law ((first | (go_simp; go_at_call 152; refine (rOwn_any (rA D.rs k) (rH D.rs k) V l d (rV D.rs k) _ HUd.out hl).mono ?_; rintro e w5 ⟨V', cv, rfl, oV, b5⟩; have b5' : Below w4.heap.size w4 w5 := (Below.refl _ _).drew.trans b5; have J5 := Lib.hid (HJ.out.below b5'); have z5 := b5'.size; have OV : Hid (OwnI w5 u0.heap.size w5.heap.size V' l cv (rX D.rs k).vals) := Lib.hid (OwnI.fit (lo := w4.heap.size) oV hz4); have lg5 := lt_of_block J5.out.bx; have q25 := bxc J5.out.bx 2 _ rfl; obtain ⟨ys5, hys5⟩ := J5.out.dz.rows; have hz5 : u0.heap.size ≤ w5.heap.size := (by omega); clear oV b5; dsimp only) | (refine step_appG (cs := #[.int .i64 (rA D.rs k), .int .i64 (rH D.rs k), .slice V' l cv]) (by rfl) _ _ (by rfl) Tryz.underlying38 hi hz0 hz1 hz2 rfl (by omega) (by omega) rfl (by simp [Value.oneCell']) u0.heap.size Z1 k cz ys5 (by rfl) hys5 _ (by rfl) (by simp) (by omega) hz5 ?_; intro Z2 c2 w9 own9 grow9 _; have SN9 := Lib.hid (JoS.snoc (r := rX D.rs k) J5.out hys5 OV.out grow9 own9); have lg9 := lt_of_block SN9.out.1; have q29 := bxc SN9.out.1 2 _ rfl; have f29 := bxf SN9.out.1 2)))
        all_goals (have HJ9 := Lib.hid SN9.out.2)
        all_goals (rw [take_rX (by omega)] at HJ9)
        all_goals (clear SN9 J5 OV HU HUd HJ XN lg q2_ ln n0_ n1_ n2_ lg5 q25 hys5 own9 grow9 lg9 q29 f29)
        all_goals go_wp2
        all_goals go_roundw
        all_goals (first | exact ⟨k + 1, Z2, c2, by omega, by go_num, HJ9.out⟩ | (simp [intOf]; omega))
      · obtain rfl : k = m := by omega
        have X2c := Lib.hid (bxb X2.out hJ.f.bl)
        have X2e := X2c
        rw [List.take_of_length_le (by omega)] at hJ
        have HJ := Lib.hid hJ
        have HSV := Lib.hid hV
        clear hJ hV
        have i0_ := bxc HJ.out.bx 0 (.slice P1 g cg1) rfl
        have p0_ := bxc X2c.out 0 _ rfl
        have g0_ := bxf X2c.out 0
        have i1_ := bxc HJ.out.bx 1 (.slice A1 n c1) rfl
        have p1_ := bxc X2c.out 1 _ rfl
        have g1_ := bxf X2c.out 1
        have i2_ := bxc HJ.out.bx 2 (.slice Z1 k cz) rfl
        have p2_ := bxc X2c.out 2 _ rfl
        have g2_ := bxf X2c.out 2
        have i3_ := bxc HJ.out.bx 3 (.slice Y1 p cp1) rfl
        have p3_ := bxc X2c.out 3 _ rfl
        have g3_ := bxf X2c.out 3
        have i4_ := bxc HJ.out.bx 4 (.int .i64 D.cost.a) rfl
        have p4_ := bxc X2c.out 4 _ rfl
        have g4_ := bxf X2c.out 4
        have i5_ := bxc HJ.out.bx 5 (.int .i64 D.cost.b) rfl
        have p5_ := bxc X2c.out 5 _ rfl
        have g5_ := bxf X2c.out 5
        have i6_ := bxc HJ.out.bx 6 (.int .i64 D.cost.c) rfl
        have p6_ := bxc X2c.out 6 _ rfl
        have g6_ := bxf X2c.out 6
        have i7_ := bxc HJ.out.bx 7 (.int .i64 D.cost.d) rfl
        have p7_ := bxc X2c.out 7 _ rfl
        have g7_ := bxf X2c.out 7
        have i8_ := bxc HJ.out.bx 8 (.int .i64 D.bud.a) rfl
        have p8_ := bxc X2c.out 8 _ rfl
        have g8_ := bxf X2c.out 8
        have i9_ := bxc HJ.out.bx 9 (.int .i64 D.bud.b) rfl
        have p9_ := bxc X2c.out 9 _ rfl
        have g9_ := bxf X2c.out 9
        have i10_ := bxc HJ.out.bx 10 (.int .i64 D.bud.c) rfl
        have p10_ := bxc X2c.out 10 _ rfl
        have g10_ := bxf X2c.out 10
        have i11_ := bxc HJ.out.bx 11 (.int .i64 D.bud.d) rfl
        have p11_ := bxc X2c.out 11 _ rfl
        have g11_ := bxf X2c.out 11
        have i12_ := bxc HJ.out.bx 12 (.int .i64 D.floor) rfl
        have p12_ := bxc X2c.out 12 _ rfl
        have g12_ := bxf X2c.out 12
        have i13_ := bxc HJ.out.bx 13 (.slice Q1 q cq1) rfl
        have p13_ := bxc X2c.out 13 _ rfl
        have g13_ := bxf X2c.out 13
        have lx := lt_of_block HJ.out.bx
        have ly := lt_of_block X2c.out
        have RX := Lib.hid (fill14n (y0 := .slice P1 g cg1) (y1 := .slice A1 n c1) (y2 := .slice Z1 k cz) (y3 := .slice Y1 p cp1) (y4 := .int .i64 D.cost.a) (y5 := .int .i64 D.cost.b) (y6 := .int .i64 D.cost.c) (y7 := .int .i64 D.cost.d) (y8 := .int .i64 D.bud.a) (y9 := .int .i64 D.bud.b) (y10 := .int .i64 D.bud.c) (y11 := .int .i64 D.bud.d) (y12 := .int .i64 D.floor) (y13 := .slice Q1 q cq1) X2c.out)
        have r0_ := bxc RX.out 0 (.slice P1 g cg1) rfl
        have r1_ := bxc RX.out 1 (.slice A1 n c1) rfl
        have r2_ := bxc RX.out 2 (.slice Z1 k cz) rfl
        have r3_ := bxc RX.out 3 (.slice Y1 p cp1) rfl
        have r4_ := bxc RX.out 4 (.int .i64 D.cost.a) rfl
        have r5_ := bxc RX.out 5 (.int .i64 D.cost.b) rfl
        have r6_ := bxc RX.out 6 (.int .i64 D.cost.c) rfl
        have r7_ := bxc RX.out 7 (.int .i64 D.cost.d) rfl
        have r8_ := bxc RX.out 8 (.int .i64 D.bud.a) rfl
        have r9_ := bxc RX.out 9 (.int .i64 D.bud.b) rfl
        have r10_ := bxc RX.out 10 (.int .i64 D.bud.c) rfl
        have r11_ := bxc RX.out 11 (.int .i64 D.bud.d) rfl
        have r12_ := bxc RX.out 12 (.int .i64 D.floor) rfl
        have r13_ := bxc RX.out 13 (.slice Q1 q cq1) rfl
        obtain ⟨⟨la, ha, oI⟩, ⟨lb, hb, oV⟩, hcc, ⟨lc, dY⟩, dQ, bl⟩ := HJ.out.f
        have e1 := fun j (hj : j ≠ w.heap.size + 1) => puts_ne (g := w.heap.size + 1) [(0, .slice P1 g cg1), (1, .slice A1 n c1), (2, .slice Z1 k cz), (3, .slice Y1 p cp1), (4, .int .i64 D.cost.a), (5, .int .i64 D.cost.b), (6, .int .i64 D.cost.c), (7, .int .i64 D.cost.d), (8, .int .i64 D.bud.a), (9, .int .i64 D.bud.b), (10, .int .i64 D.bud.c), (11, .int .i64 D.bud.d), (12, .int .i64 D.floor), (13, .slice Q1 q cq1)] wo hj
        have e2 := puts_size (g := w.heap.size + 1) [(0, .slice P1 g cg1), (1, .slice A1 n c1), (2, .slice Z1 k cz), (3, .slice Y1 p cp1), (4, .int .i64 D.cost.a), (5, .int .i64 D.cost.b), (6, .int .i64 D.cost.c), (7, .int .i64 D.cost.d), (8, .int .i64 D.bud.a), (9, .int .i64 D.bud.b), (10, .int .i64 D.bud.c), (11, .int .i64 D.bud.d), (12, .int .i64 D.floor), (13, .slice Q1 q cq1)] wo
        have FP := oI.offT X2c.out (by decide) e1
        have FA := oV.offT X2c.out (by decide) e1
        have FZ := HJ.out.dz.off X2c.out (by decide) (by decide) e1 e2
        have FY := dY.off X2c.out (by decide) (by decide) e1 e2
        have FQ := dQ.off X2c.out (by decide) (by decide) e1 e2
        have FB := puts_below (g := w.heap.size + 1) [(0, .slice P1 g cg1), (1, .slice A1 n c1), (2, .slice Z1 k cz), (3, .slice Y1 p cp1), (4, .int .i64 D.cost.a), (5, .int .i64 D.cost.b), (6, .int .i64 D.cost.c), (7, .int .i64 D.cost.d), (8, .int .i64 D.bud.a), (9, .int .i64 D.bud.b), (10, .int .i64 D.bud.c), (11, .int .i64 D.bud.d), (12, .int .i64 D.floor), (13, .slice Q1 q cq1)] wo (HB.out.trans (bl.mono HB.out.size)) (by omega)
        have FIN := Lib.hid (show CSv w g n k p q D (.returned (.agg #[.slice P1 g cg1, .slice A1 n c1, .slice Z1 k cz, .slice Y1 p cp1, .int .i64 D.cost.a, .int .i64 D.cost.b, .int .i64 D.cost.c, .int .i64 D.cost.d, .int .i64 D.bud.a, .int .i64 D.bud.b, .int .i64 D.bud.c, .int .i64 D.bud.d, .int .i64 D.floor, .slice Q1 q cq1])) (puts wo (w.heap.size + 1) [(0, .slice P1 g cg1), (1, .slice A1 n c1), (2, .slice Z1 k cz), (3, .slice Y1 p cp1), (4, .int .i64 D.cost.a), (5, .int .i64 D.cost.b), (6, .int .i64 D.cost.c), (7, .int .i64 D.cost.d), (8, .int .i64 D.bud.a), (9, .int .i64 D.bud.b), (10, .int .i64 D.bud.c), (11, .int .i64 D.bud.d), (12, .int .i64 D.floor), (13, .slice Q1 q cq1)]) from ⟨P1, A1, Z1, Y1, Q1, cg1, c1, cz, cp1, cq1, rfl, ⟨⟨_, _, FP⟩, ⟨_, _, FA⟩, ⟨_, FZ⟩, ⟨_, FY⟩, hcc, HSV.out.sur.s.s, HSV.out.sur.s.bd, HSV.out.sur.d.bd, HSV.out.plan.bd⟩, FQ.mono (by omega), FB⟩)
        clear FP FA FZ FY FQ FB e1 e2 oI oV dY dQ bl RX HJ X2c X2e HSV
        go_wp2
        exact bodyPost_ret (v := .agg #[.slice P1 g cg1, .slice A1 n c1, .slice Z1 k cz, .slice Y1 p cp1, .int .i64 D.cost.a, .int .i64 D.cost.b, .int .i64 D.cost.c, .int .i64 D.cost.d, .int .i64 D.bud.a, .int .i64 D.bud.b, .int .i64 D.bud.c, .int .i64 D.bud.d, .int .i64 D.floor, .slice Q1 q cq1]) (by simp [results, Tryz.results94, go_sem, r0_, r1_, r2_, r3_, r4_, r5_, r6_, r7_, r8_, r9_, r10_, r11_, r12_, r13_]) rfl FIN.out
end Go.Proofs.YtfanpbfmnckmnaaGreat
