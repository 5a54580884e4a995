/- Several small texts in one: AkG, AkH, AkI, AkJ. -/
import Derived.Test.YtfanpbfmnckmnaaGreatAkF
namespace Go.Proofs.YtfanpbfmnckmnaaGreat

section
open Go.RowKit

/-- The code of the next query. -/
def acK (D : SvD) (l : List TabD) (k : Nat) : Int := codeV (askN D l k) (askN D l k).asked (tX l k)
/-- The codes of the first queries; what follows in a list of n numbers is 0. -/
def acL (D : SvD) (l : List TabD) (k : Nat) : List Int := (List.range k).map (acK D l)
def acP (D : SvD) (l : List TabD) (n k : Nat) : List Int := acL D l k ++ List.replicate (n - k) 0
theorem acL_0 (D : SvD) (l : List TabD) : acL D l 0 = [] := rfl
theorem acL_succ (D : SvD) (l : List TabD) (k : Nat) : acL D l (k + 1) = acL D l k ++ [acK D l k] := by unfold acL; rw [List.range_succ, List.map_append]; rfl
theorem acL_len (D : SvD) (l : List TabD) (k : Nat) : (acL D l k).length = k := by unfold acL; simp
theorem acP_0 (D : SvD) (l : List TabD) (n : Nat) : acP D l n 0 = List.replicate n 0 := by unfold acP; rw [acL_0]; rfl
theorem acP_n (D : SvD) (l : List TabD) (n : Nat) : acP D l n n = acL D l n := by unfold acP; rw [Nat.sub_self]; simp
theorem acP_set {D : SvD} {l : List TabD} {n k : Nat} (hk : k < n) : (acP D l n k).set k (acK D l k) = acP D l n (k + 1) := by
  unfold acP
  rw [List.set_append_right _ _ (by rw [acL_len]; omega), acL_len, Nat.sub_self, acL_succ]
  obtain ⟨m, hm⟩ : ∃ m, n - k = m + 1 := ⟨n - k - 1, by omega⟩
  rw [hm, List.replicate_succ, List.set_cons_zero, show n - (k + 1) = m by omega]
  simp
/-- What AskAll returns. -/
def aaB (D : SvD) (l : List TabD) : Bool := svB D && decide (l.length ≤ 20)
def aaD (D : SvD) (l : List TabD) : SvD := if aaB D l = true then askN D l l.length else sv0
def aaC (D : SvD) (l : List TabD) : List Int := if aaB D l = true then acL D l l.length else []
theorem aaD_sv {D : SvD} {l : List TabD} (h : aaB D l = true) : svB (aaD D l) = true := by
  unfold aaD
  rw [if_pos h]
  unfold aaB at h
  rw [Bool.and_eq_true] at h
  exact askN_sv h.1 l _
theorem askN_asked_le (D : SvD) (l : List TabD) (k : Nat) : (askN D l k).asked.length ≤ D.asked.length + k := by
  induction k with
  | zero => exact Nat.le_refl _
  | succ k ih =>
    have h := asked_le (askN D l k) (tX l k)
    show (askedV (askN D l k) (tX l k)).length ≤ _
    omega
end

section
open Go.RowKit

def AaR (D : SvD) (l : List TabD) (w : World) (e : Ending) (w' : World) : Prop := ∃ (P A Z Y Q B : Option Addr) (g cg n c m cm p cp q cq nb cb : Nat) (E : SvD), E = aaD D l ∧ e = .returned (.tuple #[.slice B nb cb, .agg #[.slice P g cg, .slice A n c, .slice Z m cm, .slice Y p cp, .int .i64 E.cost.a, .int .i64 E.cost.b, .int .i64 E.cost.c, .int .i64 E.cost.d, .int .i64 E.bud.a, .int .i64 E.bud.b, .int .i64 E.bud.c, .int .i64 E.bud.d, .int .i64 E.floor, .slice Q q cq], .bool (aaB D l)]) ∧ SvR w' P A Z Y Q g n c m p cp q cq E ∧ IntR w' B nb (aaC D l) ∧ Below w.heap.size w w'
theorem AaR.drew {D : SvD} {l : List TabD} {w w' : World} {e : Ending} (h : AaR D l w e w') : AaR D l w e w'.drew := by
  obtain ⟨P, A, Z, Y, Q, B, g, cg, n, c, m, cm, p, cp, q, cq, nb, cb, E, h1, h2, h3, h4, h5⟩ := h
  have k := (Below.refl w'.heap.size w').drew
  exact ⟨P, A, Z, Y, Q, B, g, cg, n, c, m, cm, p, cp, q, cq, nb, cb, E, h1, h2, h3.below k, h4.below k, bel_c h5 k⟩
section
variable {w w' : World} {A : Option Addr} {n c lo b : Nat} {ts : List TabD} {cs : Array Value} {T : TypeId}
theorem OwnI.keepL {V : Option Addr} {m cv : Nat} {xs : List Int} (h : OwnI w lo w.heap.size V m cv xs) (hb : w.heap[b]? = some (.cells cs T (0, 0))) (hT : T ≠ 3) (hw : ∀ k, lo ≤ k → k < w.heap.size → k ≠ b → w'.heap[k]? = w.heap[k]?) (hz : w.heap.size ≤ w'.heap.size) : OwnI w' lo w'.heap.size V m cv xs :=
  ⟨h.own.keep fun g hA hg => hw g (h.own.row_ge g (by rw [hA]; rfl)).1 hg (fun e => own_ne h.own hb hT (by rw [hA, e]; rfl)), fun k hk => Nat.lt_of_lt_of_le (h.top k hk) hz, h.small⟩
theorem DTl.keepL (h : DTl w lo A n c ts) (hb : w.heap[b]? = some (.cells cs T (0, 0))) (hT : T ≠ 3) (hT2 : T ≠ 56) (hw : ∀ k, lo ≤ k → k < w.heap.size → k ≠ b → w'.heap[k]? = w.heap[k]?) (hz : w.heap.size ≤ w'.heap.size) : DTl w' lo A n c ts := by
  have hne := h.ne_box hb hT2
  obtain ⟨ys, ho, h2⟩ := h.cells
  refine ⟨h.len, ys, row_keep ho fun k hl hA hk => hw k hl hk (fun e => hne (by rw [hA, e])), fun j hj => ?_⟩
  obtain ⟨V, m, cv, U, k, cu, e0, e1, e2, e3, hv, hu⟩ := h2 j hj
  exact ⟨V, m, cv, U, k, cu, e0, e1, e2, e3, hv.keepL hb hT hw hz, hu.keepL hb hT hw hz⟩
theorem DRc.keepB {rs : List RecD} (h : DRc w lo A n c rs) (hb : w.heap[b]? = some (.cells cs T (0, 0))) (hT : T ≠ 3) (hT2 : T ≠ 135) (hw : ∀ k, k < w.heap.size → k ≠ b → w'.heap[k]? = w.heap[k]?) (hz : w.heap.size ≤ w'.heap.size) : DRc w' lo A n c rs := by
  have hne := h.ne_box hb hT2
  obtain ⟨ys, ho, h2⟩ := h.cells
  refine ⟨h.len, ys, row_keep ho fun k _ hA hk => hw k hk (fun e => hne (by rw [hA, e])), fun j hj => ?_⟩
  obtain ⟨V, m, cv, e0, e1, e2, hv⟩ := h2 j hj
  exact ⟨V, m, cv, e0, e1, e2, hv.keepB hb hT hw hz⟩
theorem OwnI.offK {lo hi : Nat} {V : Option Addr} {m cv : Nat} {xs : List Int} (h : OwnI w lo hi V m cv xs) (hb : w.heap[b]? = some (.cells cs T (0, 0))) (hT : T ≠ 3) (hw : ∀ k, k < w.heap.size → k ≠ b → w'.heap[k]? = w.heap[k]?) : OwnI w' lo hi V m cv xs :=
  ⟨h.own.keep fun g hA hg => hw g hg (fun e => own_ne h.own hb hT (by rw [hA, e]; rfl)), h.top, h.small⟩
theorem OwnV.offK {lo hi : Nat} {vs : List (ByteArray × Int)} (h : OwnV w lo hi A n c vs) (hb : w.heap[b]? = some (.cells cs T (0, 0))) (hT : T ≠ 133) (hw : ∀ k, k < w.heap.size → k ≠ b → w'.heap[k]? = w.heap[k]?) : OwnV w' lo hi A n c vs :=
  ⟨row_keep h.own (fun k _ hA hk => hw k hk (fun e => row_ne_box h.own hb hT (by rw [hA, e]))), h.top, h.small⟩
end
section
variable {W W' : World} {P A Z Y Q : Option Addr} {g cg n c m cm p cp q cq b lo : Nat} {D : SvD} {cs : Array Value}
theorem CSo.keepB (h : CSo W P A Z Y g cg n c m cm p cp D) (hb : W.heap[b]? = some (.cells cs 44 (0, 0))) (hw : ∀ k, k < W.heap.size → k ≠ b → W'.heap[k]? = W.heap[k]?) (hz : W.heap.size ≤ W'.heap.size) : CSo W' P A Z Y g cg n c m cm p cp D := by
  obtain ⟨⟨_, _, a1⟩, ⟨_, _, a2⟩, ⟨_, a3⟩, ⟨_, a4⟩, a5, a6, a7, a8, a9⟩ := h
  exact ⟨⟨_, _, a1.offK hb (by decide) hw⟩, ⟨_, _, a2.offK hb (by decide) hw⟩, ⟨_, a3.keepB hb (by decide) (by decide) hw hz⟩, ⟨_, a4.keepB hb (by decide) (a4.ne_box hb (by decide)) hw hz⟩, a5, a6, a7, a8, a9⟩
end
/-- A server in a box b while it is asked; a list of codes at C; the rows were made in the world wb and later. -/
structure AaS (w0 wb : World) (b : Nat) (C : Option Addr) (wr : World) (P1 A1 Z1 Y1 Q1 : Option Addr) (g cg1 n c1 m cm1 p cp1 q1 cq1 : Nat) (E : SvD) : Prop where
  xb : wr.heap[b]? = some (.cells #[.slice P1 g cg1, .slice A1 n c1, .slice Z1 m cm1, .slice Y1 p cp1, .int .i64 E.cost.a, .int .i64 E.cost.b, .int .i64 E.cost.c, .int .i64 E.cost.d, .int .i64 E.bud.a, .int .i64 E.bud.b, .int .i64 E.bud.c, .int .i64 E.bud.d, .int .i64 E.floor, .slice Q1 q1 cq1] 44 (0, 0))
  o : CSo wb P1 A1 Z1 Y1 g cg1 n c1 m cm1 p cp1 E
  bb : ∃ cs, wb.heap[b]? = some (.cells cs 44 (0, 0))
  sz : wb.heap.size ≤ wr.heap.size
  fr : ∀ k, k < wb.heap.size → k ≠ b → wr.heap[k]? = wb.heap[k]?
  dq : ∃ (wq : World) (lo : Nat) (cs : Array Value), DTl wq lo Q1 q1 cq1 E.asked ∧ wq.heap.size ≤ wr.heap.size ∧ (∀ k, lo ≤ k → k < wq.heap.size → k ≠ b → wr.heap[k]? = wq.heap[k]?) ∧ wq.heap[b]? = some (.cells cs 44 (0, 0)) ∧ ∀ k, rowOf C = some k → k < lo ∨ wq.heap.size ≤ k
  bl : Below w0.heap.size w0 wr
  gb : w0.heap.size ≤ b
  cb : ∀ k, rowOf C = some k → wb.heap.size ≤ k ∧ k < wr.heap.size
section
variable {w0 wb wr wr' : World} {b : Nat} {C : Option Addr} {P1 A1 Z1 Y1 Q1 : Option Addr} {g cg1 n c1 m cm1 p cp1 q1 cq1 : Nat} {E : SvD}
theorem AaS.below (h : AaS w0 wb b C wr P1 A1 Z1 Y1 Q1 g cg1 n c1 m cm1 p cp1 q1 cq1 E) (k : Below wr.heap.size wr wr') : AaS w0 wb b C wr' P1 A1 Z1 Y1 Q1 g cg1 n c1 m cm1 p cp1 q1 cq1 E := by
  obtain ⟨xb, o, bb, sz, fr, ⟨wq, lo, cs, d1, d2, d3, d4, d5⟩, bl, gb, cb⟩ := h
  exact ⟨bxb xb k, o, bb, Nat.le_trans sz k.size, fun j hj hb => (k.block j (by omega)).trans (fr j hj hb), ⟨wq, lo, cs, d1, Nat.le_trans d2 k.size, fun j h1 h2 hb => (k.block j (by omega)).trans (d3 j h1 h2 hb), d4, d5⟩, bel_c bl k, gb, fun j hj => ⟨(cb j hj).1, Nat.lt_of_lt_of_le (cb j hj).2 k.size⟩⟩
theorem AaS.dtl (h : AaS w0 wb b C wr P1 A1 Z1 Y1 Q1 g cg1 n c1 m cm1 p cp1 q1 cq1 E) : DTl wr 0 Q1 q1 cq1 E.asked := by
  obtain ⟨wq, lo, cs, d1, d2, d3, d4, d5⟩ := h.dq
  exact (d1.keepL d4 (by decide) (by decide) d3 d2).mono (Nat.zero_le _)
theorem AaS.cso (h : AaS w0 wb b C wr P1 A1 Z1 Y1 Q1 g cg1 n c1 m cm1 p cp1 q1 cq1 E) : CSo wr P1 A1 Z1 Y1 g cg1 n c1 m cm1 p cp1 E := by
  obtain ⟨cs, hc⟩ := h.bb
  exact h.o.keepB hc h.fr h.sz
theorem AaS.sv (h : AaS w0 wb b C wr P1 A1 Z1 Y1 Q1 g cg1 n c1 m cm1 p cp1 q1 cq1 E) (hq : q1 ≤ 1099511627776) : SvR wr P1 A1 Z1 Y1 Q1 g n c1 m p cp1 q1 cq1 E := h.cso.sv h.dtl hq
theorem AaS.ne_c (h : AaS w0 wb b C wr P1 A1 Z1 Y1 Q1 g cg1 n c1 m cm1 p cp1 q1 cq1 E) {k : Nat} (hk : rowOf C = some k) : k ≠ b := by
  obtain ⟨cs, hc⟩ := h.bb
  have h1 := lt_of_block hc
  have h2 := (h.cb k hk).1
  omega
/-- Another row of codes, or a store into the old one. -/
theorem AaS.code {C' : Option Addr} (h : AaS w0 wb b C wr P1 A1 Z1 Y1 Q1 g cg1 n c1 m cm1 p cp1 q1 cq1 E) (hz : wr.heap.size ≤ wr'.heap.size) (hw : ∀ k, k < wr.heap.size → rowOf C ≠ some k → wr'.heap[k]? = wr.heap[k]?) (hB : Below w0.heap.size w0 wr') (hC : ∀ k, rowOf C' = some k → k < wr'.heap.size ∧ (rowOf C = some k ∨ wr.heap.size ≤ k)) : AaS w0 wb b C' wr' P1 A1 Z1 Y1 Q1 g cg1 n c1 m cm1 p cp1 q1 cq1 E := by
  obtain ⟨cs0, hc0⟩ := h.bb
  have hb1 := lt_of_block hc0
  have hne : rowOf C ≠ some b := fun e => h.ne_c e rfl
  obtain ⟨xb, o, bb, sz, fr, ⟨wq, lo, cs, d1, d2, d3, d4, d5⟩, bl, gb, cb⟩ := h
  refine ⟨(hw b (by omega) hne).trans xb, o, bb, Nat.le_trans sz hz, fun j hj hb => (hw j (by omega) (fun e => by have := (cb j e).1; omega)).trans (fr j hj hb), ⟨wq, lo, cs, d1, Nat.le_trans d2 hz, fun j h1 h2 hb => (hw j (by omega) (fun e => by have := d5 j e; omega)).trans (d3 j h1 h2 hb), d4, fun j hj => ?_⟩, hB, gb, fun j hj => ⟨?_, (hC j hj).1⟩⟩
  · rcases (hC j hj).2 with e | e
    · exact d5 j e
    · exact .inr (by omega)
  · rcases (hC j hj).2 with e | e
    · exact (cb j e).1
    · omega
/-- The beginning. -/
theorem AaS.made {lo : Nat} (hx : wb.heap[b]? = some (.cells #[.slice P1 g cg1, .slice A1 n c1, .slice Z1 m cm1, .slice Y1 p cp1, .int .i64 E.cost.a, .int .i64 E.cost.b, .int .i64 E.cost.c, .int .i64 E.cost.d, .int .i64 E.bud.a, .int .i64 E.bud.b, .int .i64 E.bud.c, .int .i64 E.bud.d, .int .i64 E.floor, .slice Q1 q1 cq1] 44 (0, 0))) (hB : Below w0.heap.size w0 wb) (hg : w0.heap.size ≤ b) (o : CSo wb P1 A1 Z1 Y1 g cg1 n c1 m cm1 p cp1 E) (d : DTl wb lo Q1 q1 cq1 E.asked) : AaS w0 wb b none wb P1 A1 Z1 Y1 Q1 g cg1 n c1 m cm1 p cp1 q1 cq1 E :=
  ⟨hx, o, ⟨_, hx⟩, Nat.le_refl _, fun _ _ _ => rfl, ⟨wb, lo, _, d, Nat.le_refl _, fun _ _ _ _ => rfl, hx, fun k hk => by cases hk⟩, hB, hg, fun k hk => by cases hk⟩
theorem AaS.put {lo : Nat} {z0 z1 z2 z3 z4 z5 z6 z7 z8 z9 z10 z11 z12 z13 : Value} (hx : wb.heap[b]? = some (.cells #[z0, z1, z2, z3, z4, z5, z6, z7, z8, z9, z10, z11, z12, z13] 44 (0, 0))) (hB : Below w0.heap.size w0 wb) (hg : w0.heap.size ≤ b) (o : CSo wb P1 A1 Z1 Y1 g cg1 n c1 m cm1 p cp1 E) (d : DTl wb lo Q1 q1 cq1 E.asked) : AaS w0 wb b none (((((((((((((((wb).setCell ⟨b, 0, none⟩ (.slice P1 g cg1)).setCell ⟨b, 1, none⟩ (.slice A1 n c1)).setCell ⟨b, 2, none⟩ (.slice Z1 m cm1)).setCell ⟨b, 3, none⟩ (.slice Y1 p cp1)).setCell ⟨b, 4, none⟩ (.int .i64 E.cost.a)).setCell ⟨b, 5, none⟩ (.int .i64 E.cost.b)).setCell ⟨b, 6, none⟩ (.int .i64 E.cost.c)).setCell ⟨b, 7, none⟩ (.int .i64 E.cost.d)).setCell ⟨b, 8, none⟩ (.int .i64 E.bud.a)).setCell ⟨b, 9, none⟩ (.int .i64 E.bud.b)).setCell ⟨b, 10, none⟩ (.int .i64 E.bud.c)).setCell ⟨b, 11, none⟩ (.int .i64 E.bud.d)).setCell ⟨b, 12, none⟩ (.int .i64 E.floor)).setCell ⟨b, 13, none⟩ (.slice Q1 q1 cq1)) P1 A1 Z1 Y1 Q1 g cg1 n c1 m cm1 p cp1 q1 cq1 E := by
  have h9 := fill14n (y0 := .slice P1 g cg1) (y1 := .slice A1 n c1) (y2 := .slice Z1 m cm1) (y3 := .slice Y1 p cp1) (y4 := .int .i64 E.cost.a) (y5 := .int .i64 E.cost.b) (y6 := .int .i64 E.cost.c) (y7 := .int .i64 E.cost.d) (y8 := .int .i64 E.bud.a) (y9 := .int .i64 E.bud.b) (y10 := .int .i64 E.bud.c) (y11 := .int .i64 E.bud.d) (y12 := .int .i64 E.floor) (y13 := .slice Q1 q1 cq1) hx
  rw [← puts14] at h9 ⊢
  have hn := fun j (hj : j ≠ b) => puts_ne (g := b) [(0, .slice P1 g cg1), (1, .slice A1 n c1), (2, .slice Z1 m cm1), (3, .slice Y1 p cp1), (4, .int .i64 E.cost.a), (5, .int .i64 E.cost.b), (6, .int .i64 E.cost.c), (7, .int .i64 E.cost.d), (8, .int .i64 E.bud.a), (9, .int .i64 E.bud.b), (10, .int .i64 E.bud.c), (11, .int .i64 E.bud.d), (12, .int .i64 E.floor), (13, .slice Q1 q1 cq1)] wb hj
  have hz := puts_size (g := b) [(0, .slice P1 g cg1), (1, .slice A1 n c1), (2, .slice Z1 m cm1), (3, .slice Y1 p cp1), (4, .int .i64 E.cost.a), (5, .int .i64 E.cost.b), (6, .int .i64 E.cost.c), (7, .int .i64 E.cost.d), (8, .int .i64 E.bud.a), (9, .int .i64 E.bud.b), (10, .int .i64 E.bud.c), (11, .int .i64 E.bud.d), (12, .int .i64 E.floor), (13, .slice Q1 q1 cq1)] wb
  have hB := puts_below (g := b) [(0, .slice P1 g cg1), (1, .slice A1 n c1), (2, .slice Z1 m cm1), (3, .slice Y1 p cp1), (4, .int .i64 E.cost.a), (5, .int .i64 E.cost.b), (6, .int .i64 E.cost.c), (7, .int .i64 E.cost.d), (8, .int .i64 E.bud.a), (9, .int .i64 E.bud.b), (10, .int .i64 E.bud.c), (11, .int .i64 E.bud.d), (12, .int .i64 E.floor), (13, .slice Q1 q1 cq1)] wb hB hg
  exact ⟨h9, o, ⟨_, hx⟩, by omega, fun j _ hb => hn j hb, ⟨wb, lo, _, d, by omega, fun j _ _ hb => hn j hb, hx, fun k hk => by cases hk⟩, hB, hg, fun k hk => by cases hk⟩
/-- The asked server is stored into the box. -/
theorem AaS.ask {w4 w5 : World} {Q2 : Option Addr} {q2 cq2 : Nat} {t : TabD} (h : AaS w0 wb b C w4 P1 A1 Z1 Y1 Q1 g cg1 n c1 m cm1 p cp1 q1 cq1 E) (k : Below w4.heap.size w4 w5) (hd : (Q2 = Q1 ∧ q2 = q1 ∧ cq2 = cq1 ∧ askedV E t = E.asked) ∨ DTl w5 w4.heap.size Q2 q2 cq2 (askedV E t)) :
    AaS w0 wb b C (((((((((((((((w5).setCell ⟨b, 0, none⟩ (.slice P1 g cg1)).setCell ⟨b, 1, none⟩ (.slice A1 n c1)).setCell ⟨b, 2, none⟩ (.slice Z1 m cm1)).setCell ⟨b, 3, none⟩ (.slice Y1 p cp1)).setCell ⟨b, 4, none⟩ (.int .i64 E.cost.a)).setCell ⟨b, 5, none⟩ (.int .i64 E.cost.b)).setCell ⟨b, 6, none⟩ (.int .i64 E.cost.c)).setCell ⟨b, 7, none⟩ (.int .i64 E.cost.d)).setCell ⟨b, 8, none⟩ (.int .i64 E.bud.a)).setCell ⟨b, 9, none⟩ (.int .i64 E.bud.b)).setCell ⟨b, 10, none⟩ (.int .i64 E.bud.c)).setCell ⟨b, 11, none⟩ (.int .i64 E.bud.d)).setCell ⟨b, 12, none⟩ (.int .i64 E.floor)).setCell ⟨b, 13, none⟩ (.slice Q2 q2 cq2)) P1 A1 Z1 Y1 Q2 g cg1 n c1 m cm1 p cp1 q2 cq2 (askD E t) := by
  have h5 := h.below k
  have hgb := h5.gb
  have xb4 := h.xb
  have xb5 := h5.xb
  have cb4 := h.cb
  have h9 := fill14n (y0 := .slice P1 g cg1) (y1 := .slice A1 n c1) (y2 := .slice Z1 m cm1) (y3 := .slice Y1 p cp1) (y4 := .int .i64 E.cost.a) (y5 := .int .i64 E.cost.b) (y6 := .int .i64 E.cost.c) (y7 := .int .i64 E.cost.d) (y8 := .int .i64 E.bud.a) (y9 := .int .i64 E.bud.b) (y10 := .int .i64 E.bud.c) (y11 := .int .i64 E.bud.d) (y12 := .int .i64 E.floor) (y13 := .slice Q2 q2 cq2) h5.xb
  rw [← puts14] at h9 ⊢
  have hn := fun j (hj : j ≠ b) => puts_ne (g := b) [(0, .slice P1 g cg1), (1, .slice A1 n c1), (2, .slice Z1 m cm1), (3, .slice Y1 p cp1), (4, .int .i64 E.cost.a), (5, .int .i64 E.cost.b), (6, .int .i64 E.cost.c), (7, .int .i64 E.cost.d), (8, .int .i64 E.bud.a), (9, .int .i64 E.bud.b), (10, .int .i64 E.bud.c), (11, .int .i64 E.bud.d), (12, .int .i64 E.floor), (13, .slice Q2 q2 cq2)] w5 hj
  have hz := puts_size (g := b) [(0, .slice P1 g cg1), (1, .slice A1 n c1), (2, .slice Z1 m cm1), (3, .slice Y1 p cp1), (4, .int .i64 E.cost.a), (5, .int .i64 E.cost.b), (6, .int .i64 E.cost.c), (7, .int .i64 E.cost.d), (8, .int .i64 E.bud.a), (9, .int .i64 E.bud.b), (10, .int .i64 E.bud.c), (11, .int .i64 E.bud.d), (12, .int .i64 E.floor), (13, .slice Q2 q2 cq2)] w5
  have hB := puts_below (g := b) [(0, .slice P1 g cg1), (1, .slice A1 n c1), (2, .slice Z1 m cm1), (3, .slice Y1 p cp1), (4, .int .i64 E.cost.a), (5, .int .i64 E.cost.b), (6, .int .i64 E.cost.c), (7, .int .i64 E.cost.d), (8, .int .i64 E.bud.a), (9, .int .i64 E.bud.b), (10, .int .i64 E.bud.c), (11, .int .i64 E.bud.d), (12, .int .i64 E.floor), (13, .slice Q2 q2 cq2)] w5 h5.bl hgb
  have o' : CSo wb P1 A1 Z1 Y1 g cg1 n c1 m cm1 p cp1 (askD E t) := by
    obtain ⟨a1, a2, a3, a4, a5, a6, a7, a8, a9⟩ := h.o
    exact ⟨a1, a2, a3, a4, a5, a6, a7, a8, a9⟩
  have fr5 := h5.fr
  have sz5 := h5.sz
  have cb5 := h5.cb
  refine ⟨h9, o', h5.bb, by omega, fun j hj hb => (hn j hb).trans (fr5 j hj hb), ?_, hB, hgb, fun j hj => by rw [hz]; exact cb5 j hj⟩
  rcases hd with ⟨rfl, rfl, rfl, e⟩ | hd
  · obtain ⟨wq, lo, cs, d1, d2, d3, d4, d5⟩ := h5.dq
    exact ⟨wq, lo, cs, by rw [show (askD E t).asked = E.asked from e]; exact d1, by omega, fun j h1 h2 hb => (hn j hb).trans (d3 j h1 h2 hb), d4, d5⟩
  · exact ⟨w5, w4.heap.size, _, hd, by omega, fun j h1 h2 hb => hn j hb, xb5, fun j hj => .inl (cb4 j hj).2⟩
theorem AaS.app {C' : Option Addr} (h : AaS w0 wb b C wr P1 A1 Z1 Y1 Q1 g cg1 n c1 m cm1 p cp1 q1 cq1 E) (hg : wr.grownBy wr' (rowOf C)) (hC : ∀ k, rowOf C' = some k → k < wr'.heap.size) (hr : rowOf C' = rowOf C ∨ rowOf C' = some (wr.heap.size + 1)) : AaS w0 wb b C' wr' P1 A1 Z1 Y1 Q1 g cg1 n c1 m cm1 p cp1 q1 cq1 E := by
  have hb := lt_of_block h.bb.choose_spec
  have hgb := h.gb
  have hsz := h.sz
  refine h.code hg.size (fun k hk hne => hg.block k hk (fun e => hne e.symm)) (below_write h.bl hg (by omega) (fun k hk => by have := (h.cb k hk).1; omega)) (fun k hk => ⟨hC k hk, ?_⟩)
  rcases hr with e | e
  · exact .inl (by rw [← e]; exact hk)
  · rw [e] at hk; injection hk with hk; exact .inr (by omega)
theorem AaS.set {bc k : Nat} {x : Int} (h : AaS w0 wb b (some ⟨bc, 0, none⟩) wr P1 A1 Z1 Y1 Q1 g cg1 n c1 m cm1 p cp1 q1 cq1 E) : AaS w0 wb b (some ⟨bc, 0, none⟩) (wr.setCell ⟨bc, k, none⟩ (.int .i64 x)) P1 A1 Z1 Y1 Q1 g cg1 n c1 m cm1 p cp1 q1 cq1 E := by
  have hb := lt_of_block h.bb.choose_spec
  have hgb := h.gb
  have hcb := h.cb bc rfl
  have hz : (wr.setCell ⟨bc, k, none⟩ (.int .i64 x)).heap.size = wr.heap.size := by simp
  refine h.code (Nat.le_of_eq hz.symm) (fun j _ hj => Below.heap_setCell _ ⟨bc, k, none⟩ _ j (fun e => hj (by rw [e]; rfl))) (h.bl.setCell (p := ⟨bc, k, none⟩) (by show w0.heap.size ≤ bc; omega) _) (fun j hj => ⟨?_, .inl hj⟩)
  rw [hz]; exact (h.cb j hj).2
theorem AaS.make {o : Obj} (h : AaS w0 wb b none wr P1 A1 Z1 Y1 Q1 g cg1 n c1 m cm1 p cp1 q1 cq1 E) : AaS w0 wb b (some ⟨wr.heap.size, 0, none⟩) (wr.alloc o) P1 A1 Z1 Y1 Q1 g cg1 n c1 m cm1 p cp1 q1 cq1 E := by
  have bm := below_new wr o
  refine h.code bm.size (fun k hk _ => bm.block k hk) (bel_c h.bl bm) (fun k hk => ?_)
  injection hk with hk
  subst hk
  exact ⟨by simp, .inr (Nat.le_refl _)⟩
theorem OwnI.setZ {w : World} {lo gg nn cc k : Nat} {xs : List Int} {x : Int} (h : OwnI w lo w.heap.size (some ⟨gg, 0, none⟩) nn cc xs) : OwnI (w.setCell ⟨gg, k, none⟩ (.int .i64 x)) lo (w.setCell ⟨gg, k, none⟩ (.int .i64 x)).heap.size (some ⟨gg, 0, none⟩) nn cc (xs.set k x) := by
  have h1 := h.own.set (k := k) (x := x)
  exact OwnI.of_own h1 h.small
/-- A row of ints beside the fourteen stores. -/
theorem ownI_p14 {lo nn cc : Nat} {V : Option Addr} {xs : List Int} {cs : Array Value} {y0 y1 y2 y3 y4 y5 y6 y7 y8 y9 y10 y11 y12 y13 : Value} (h : OwnI wr lo wr.heap.size V nn cc xs) (hb : wr.heap[b]? = some (.cells cs 44 (0, 0))) : OwnI (((((((((((((((wr).setCell ⟨b, 0, none⟩ (y0)).setCell ⟨b, 1, none⟩ (y1)).setCell ⟨b, 2, none⟩ (y2)).setCell ⟨b, 3, none⟩ (y3)).setCell ⟨b, 4, none⟩ (y4)).setCell ⟨b, 5, none⟩ (y5)).setCell ⟨b, 6, none⟩ (y6)).setCell ⟨b, 7, none⟩ (y7)).setCell ⟨b, 8, none⟩ (y8)).setCell ⟨b, 9, none⟩ (y9)).setCell ⟨b, 10, none⟩ (y10)).setCell ⟨b, 11, none⟩ (y11)).setCell ⟨b, 12, none⟩ (y12)).setCell ⟨b, 13, none⟩ (y13)) lo (((((((((((((((wr).setCell ⟨b, 0, none⟩ (y0)).setCell ⟨b, 1, none⟩ (y1)).setCell ⟨b, 2, none⟩ (y2)).setCell ⟨b, 3, none⟩ (y3)).setCell ⟨b, 4, none⟩ (y4)).setCell ⟨b, 5, none⟩ (y5)).setCell ⟨b, 6, none⟩ (y6)).setCell ⟨b, 7, none⟩ (y7)).setCell ⟨b, 8, none⟩ (y8)).setCell ⟨b, 9, none⟩ (y9)).setCell ⟨b, 10, none⟩ (y10)).setCell ⟨b, 11, none⟩ (y11)).setCell ⟨b, 12, none⟩ (y12)).setCell ⟨b, 13, none⟩ (y13)).heap.size V nn cc xs := by
  rw [← puts14]
  exact h.off hb (by decide) (fun j hj => puts_ne (g := b) [(0, y0), (1, y1), (2, y2), (3, y3), (4, y4), (5, y5), (6, y6), (7, y7), (8, y8), (9, y9), (10, y10), (11, y11), (12, y12), (13, y13)] wr hj) (puts_size (g := b) [(0, y0), (1, y1), (2, y2), (3, y3), (4, y4), (5, y5), (6, y6), (7, y7), (8, y8), (9, y9), (10, y10), (11, y11), (12, y12), (13, y13)] wr)
end
end

section
open Go.RowKit

set_option maxRecDepth 100000 in
set_option maxHeartbeats 4000000 in
theorem implAskAll_any (P A Z Y Q L : Option Addr) (g cg n c m cm p cp q cq tn tc : Nat) (D : SvD) (l : List TabD) (w : World) (hV : SvR w P A Z Y Q g n c m p cp q cq D) (hL : TabsR w L tn l) (hq : q ≤ 900000) :
    Calls Tryz.prog 42 #[.agg #[.slice P g cg, .slice A n c, .slice Z m cm, .slice Y p cp, .int .i64 D.cost.a, .int .i64 D.cost.b, .int .i64 D.cost.c, .int .i64 D.cost.d, .int .i64 D.bud.a, .int .i64 D.bud.b, .int .i64 D.bud.c, .int .i64 D.bud.d, .int .i64 D.floor, .slice Q q cq], .slice L tn tc] w (AaR D l w) := by
  obtain ⟨b0, x1, x2⟩ := box_two w #[.slice P g cg, .slice A n c, .slice Z m cm, .slice Y p cp, .int .i64 D.cost.a, .int .i64 D.cost.b, .int .i64 D.cost.c, .int .i64 D.cost.d, .int .i64 D.bud.a, .int .i64 D.bud.b, .int .i64 D.bud.c, .int .i64 D.bud.d, .int .i64 D.floor, .slice Q q cq] #[.slice none 0 0, .slice none 0 0, .slice none 0 0, .slice none 0 0, .int .i64 0, .int .i64 0, .int .i64 0, .int .i64 0, .int .i64 0, .int .i64 0, .int .i64 0, .int .i64 0, .int .i64 0, .slice none 0 0] 44 44
  have HLW := Lib.hid hL
  have HS := Lib.hid (show ((w.alloc (.cells #[.slice P g cg, .slice A n c, .slice Z m cm, .slice Y p cp, .int .i64 D.cost.a, .int .i64 D.cost.b, .int .i64 D.cost.c, .int .i64 D.cost.d, .int .i64 D.bud.a, .int .i64 D.bud.b, .int .i64 D.bud.c, .int .i64 D.bud.d, .int .i64 D.floor, .slice Q q cq] 44)).alloc (.cells #[.slice none 0 0, .slice none 0 0, .slice none 0 0, .slice none 0 0, .int .i64 0, .int .i64 0, .int .i64 0, .int .i64 0, .int .i64 0, .int .i64 0, .int .i64 0, .int .i64 0, .int .i64 0, .slice none 0 0] 44)).heap.size = w.heap.size + 1 + 1 by simp)
  have HV := Lib.hid (hV.below b0)
  have HL := Lib.hid (hL.below b0)
  have hl0 := hL.len
  have hlb := hL.bd
  have X1 := Lib.hid x1
  have X2 := Lib.hid x2
  have HB := Lib.hid b0
  clear b0 x1 x2 hV hL
  go_enter Tryz.func42, Tryz.ntmps42
  have l1 := lt_of_block X1.out
  have c0_ := bxc X1.out 0 _ rfl; have c1_ := bxc X1.out 1 _ rfl; have c2_ := bxc X1.out 2 _ rfl; have c3_ := bxc X1.out 3 _ rfl; have c4_ := bxc X1.out 4 _ rfl; have c5_ := bxc X1.out 5 _ rfl; have c6_ := bxc X1.out 6 _ rfl; have c7_ := bxc X1.out 7 _ rfl; have c8_ := bxc X1.out 8 _ rfl; have c9_ := bxc X1.out 9 _ rfl; have c10_ := bxc X1.out 10 _ rfl; have c11_ := bxc X1.out 11 _ rfl; have c12_ := bxc X1.out 12 _ rfl; have c13_ := bxc X1.out 13 _ rfl
  go_wp2_with fail
  clear l1 c0_ c1_ c2_ c3_ c4_ c5_ c6_ c7_ c8_ c9_ c10_ c11_ c12_ c13_
  generalize ((w.alloc (.cells #[.slice P g cg, .slice A n c, .slice Z m cm, .slice Y p cp, .int .i64 D.cost.a, .int .i64 D.cost.b, .int .i64 D.cost.c, .int .i64 D.cost.d, .int .i64 D.bud.a, .int .i64 D.bud.b, .int .i64 D.bud.c, .int .i64 D.bud.d, .int .i64 D.floor, .slice Q q cq] 44)).alloc (.cells #[.slice none 0 0, .slice none 0 0, .slice none 0 0, .slice none 0 0, .int .i64 0, .int .i64 0, .int .i64 0, .int .i64 0, .int .i64 0, .int .i64 0, .int .i64 0, .int .i64 0, .int .i64 0, .slice none 0 0] 44)) = w1 at *
  have hs1 : w.heap.size + 1 + 1 ≤ w1.heap.size := Nat.le_of_eq HS.out.symm
  refine (IsServer_any P A Z Y Q g cg n c m cm p cp q cq D _ HV.out.hcp HV.out.hcq HV.out.sur HV.out.plan HV.out.asked).mono ?_
  rintro e u0 ⟨rfl, b1⟩
  have hs0 : w.heap.size + 1 + 1 ≤ u0.heap.size := Nat.le_trans hs1 b1.size
  replace HV := Lib.hid (HV.out.below b1)
  replace HL := Lib.hid (HL.out.below b1)
  replace X1 := Lib.hid (bxb X1.out b1)
  replace X2 := Lib.hid (bxb X2.out b1)
  replace HB := Lib.hid (HB.out.trans (b1.mono HB.out.size))
  clear b1
  have l1 := lt_of_block X1.out
  have l2 := lt_of_block X2.out
  cases hs : svB D
  · have p0_ := bxc X2.out 0 _ rfl; have p1_ := bxc X2.out 1 _ rfl; have p2_ := bxc X2.out 2 _ rfl; have p3_ := bxc X2.out 3 _ rfl; have p4_ := bxc X2.out 4 _ rfl; have p5_ := bxc X2.out 5 _ rfl; have p6_ := bxc X2.out 6 _ rfl; have p7_ := bxc X2.out 7 _ rfl; have p8_ := bxc X2.out 8 _ rfl; have p9_ := bxc X2.out 9 _ rfl; have p10_ := bxc X2.out 10 _ rfl; have p11_ := bxc X2.out 11 _ rfl; have p12_ := bxc X2.out 12 _ rfl; have p13_ := bxc X2.out 13 _ rfl
    have g0_ := bxf X2.out 0; have g1_ := bxf X2.out 1; have g2_ := bxf X2.out 2; have g3_ := bxf X2.out 3; have g4_ := bxf X2.out 4; have g5_ := bxf X2.out 5; have g6_ := bxf X2.out 6; have g7_ := bxf X2.out 7; have g8_ := bxf X2.out 8; have g9_ := bxf X2.out 9; have g10_ := bxf X2.out 10; have g11_ := bxf X2.out 11; have g12_ := bxf X2.out 12; have g13_ := bxf X2.out 13
    have RX := Lib.hid (fill14n (y0 := .slice none 0 0) (y1 := .slice none 0 0) (y2 := .slice none 0 0) (y3 := .slice none 0 0) (y4 := .int .i64 0) (y5 := .int .i64 0) (y6 := .int .i64 0) (y7 := .int .i64 0) (y8 := .int .i64 0) (y9 := .int .i64 0) (y10 := .int .i64 0) (y11 := .int .i64 0) (y12 := .int .i64 0) (y13 := .slice none 0 0) X2.out)
    have r0_ := bxc RX.out 0 (.slice none 0 0) rfl; have r1_ := bxc RX.out 1 (.slice none 0 0) rfl; have r2_ := bxc RX.out 2 (.slice none 0 0) rfl; have r3_ := bxc RX.out 3 (.slice none 0 0) rfl; have r4_ := bxc RX.out 4 (.int .i64 0) rfl; have r5_ := bxc RX.out 5 (.int .i64 0) rfl; have r6_ := bxc RX.out 6 (.int .i64 0) rfl; have r7_ := bxc RX.out 7 (.int .i64 0) rfl; have r8_ := bxc RX.out 8 (.int .i64 0) rfl; have r9_ := bxc RX.out 9 (.int .i64 0) rfl; have r10_ := bxc RX.out 10 (.int .i64 0) rfl; have r11_ := bxc RX.out 11 (.int .i64 0) rfl; have r12_ := bxc RX.out 12 (.int .i64 0) rfl; have r13_ := bxc RX.out 13 (.slice none 0 0) rfl
    have FB := Lib.hid (puts_below (g := w.heap.size + 1) [(0, .slice none 0 0), (1, .slice none 0 0), (2, .slice none 0 0), (3, .slice none 0 0), (4, .int .i64 0), (5, .int .i64 0), (6, .int .i64 0), (7, .int .i64 0), (8, .int .i64 0), (9, .int .i64 0), (10, .int .i64 0), (11, .int .i64 0), (12, .int .i64 0), (13, .slice none 0 0)] u0 HB.out (by omega))
    have AB : aaB D l = false := by unfold aaB; rw [hs]; rfl
    have FIN := Lib.hid (show AaR D l w (.returned (.tuple #[.slice none 0 0, .agg #[.slice none 0 0, .slice none 0 0, .slice none 0 0, .slice none 0 0, .int .i64 0, .int .i64 0, .int .i64 0, .int .i64 0, .int .i64 0, .int .i64 0, .int .i64 0, .int .i64 0, .int .i64 0, .slice none 0 0], .bool false])) (puts u0 (w.heap.size + 1) [(0, .slice none 0 0), (1, .slice none 0 0), (2, .slice none 0 0), (3, .slice none 0 0), (4, .int .i64 0), (5, .int .i64 0), (6, .int .i64 0), (7, .int .i64 0), (8, .int .i64 0), (9, .int .i64 0), (10, .int .i64 0), (11, .int .i64 0), (12, .int .i64 0), (13, .slice none 0 0)]) from ⟨none, none, none, none, none, none, 0, 0, 0, 0, 0, 0, 0, 0, 0, 0, 0, 0, sv0, by unfold aaD; rw [AB]; rfl, by rw [AB]; rfl, sv0_R _, by unfold aaC; rw [AB]; exact ⟨Ints.nil_, by omega⟩, FB.out⟩)
    clear RX FB X1 X2 HV HL HB
    go_wp2
    exact bodyPost_ret (v := .tuple #[.slice none 0 0, .agg #[.slice none 0 0, .slice none 0 0, .slice none 0 0, .slice none 0 0, .int .i64 0, .int .i64 0, .int .i64 0, .int .i64 0, .int .i64 0, .int .i64 0, .int .i64 0, .int .i64 0, .int .i64 0, .slice none 0 0], .bool false]) (by simp [results, Tryz.results42, go_sem, r0_, r1_, r2_, r3_, r4_, r5_, r6_, r7_, r8_, r9_, r10_, r11_, r12_, r13_]) rfl FIN.out
  by_cases hl : tn ≤ 20
  case neg =>
    have d20 : decide ((20 : Int) < (tn : Int)) = true := decide_eq_true (by omega)
    have p0_ := bxc X2.out 0 _ rfl; have p1_ := bxc X2.out 1 _ rfl; have p2_ := bxc X2.out 2 _ rfl; have p3_ := bxc X2.out 3 _ rfl; have p4_ := bxc X2.out 4 _ rfl; have p5_ := bxc X2.out 5 _ rfl; have p6_ := bxc X2.out 6 _ rfl; have p7_ := bxc X2.out 7 _ rfl; have p8_ := bxc X2.out 8 _ rfl; have p9_ := bxc X2.out 9 _ rfl; have p10_ := bxc X2.out 10 _ rfl; have p11_ := bxc X2.out 11 _ rfl; have p12_ := bxc X2.out 12 _ rfl; have p13_ := bxc X2.out 13 _ rfl
    have g0_ := bxf X2.out 0; have g1_ := bxf X2.out 1; have g2_ := bxf X2.out 2; have g3_ := bxf X2.out 3; have g4_ := bxf X2.out 4; have g5_ := bxf X2.out 5; have g6_ := bxf X2.out 6; have g7_ := bxf X2.out 7; have g8_ := bxf X2.out 8; have g9_ := bxf X2.out 9; have g10_ := bxf X2.out 10; have g11_ := bxf X2.out 11; have g12_ := bxf X2.out 12; have g13_ := bxf X2.out 13
    have RX := Lib.hid (fill14n (y0 := .slice none 0 0) (y1 := .slice none 0 0) (y2 := .slice none 0 0) (y3 := .slice none 0 0) (y4 := .int .i64 0) (y5 := .int .i64 0) (y6 := .int .i64 0) (y7 := .int .i64 0) (y8 := .int .i64 0) (y9 := .int .i64 0) (y10 := .int .i64 0) (y11 := .int .i64 0) (y12 := .int .i64 0) (y13 := .slice none 0 0) X2.out)
    have r0_ := bxc RX.out 0 (.slice none 0 0) rfl; have r1_ := bxc RX.out 1 (.slice none 0 0) rfl; have r2_ := bxc RX.out 2 (.slice none 0 0) rfl; have r3_ := bxc RX.out 3 (.slice none 0 0) rfl; have r4_ := bxc RX.out 4 (.int .i64 0) rfl; have r5_ := bxc RX.out 5 (.int .i64 0) rfl; have r6_ := bxc RX.out 6 (.int .i64 0) rfl; have r7_ := bxc RX.out 7 (.int .i64 0) rfl; have r8_ := bxc RX.out 8 (.int .i64 0) rfl; have r9_ := bxc RX.out 9 (.int .i64 0) rfl; have r10_ := bxc RX.out 10 (.int .i64 0) rfl; have r11_ := bxc RX.out 11 (.int .i64 0) rfl; have r12_ := bxc RX.out 12 (.int .i64 0) rfl; have r13_ := bxc RX.out 13 (.slice none 0 0) rfl
    have FB := Lib.hid (puts_below (g := w.heap.size + 1) [(0, .slice none 0 0), (1, .slice none 0 0), (2, .slice none 0 0), (3, .slice none 0 0), (4, .int .i64 0), (5, .int .i64 0), (6, .int .i64 0), (7, .int .i64 0), (8, .int .i64 0), (9, .int .i64 0), (10, .int .i64 0), (11, .int .i64 0), (12, .int .i64 0), (13, .slice none 0 0)] u0 HB.out (by omega))
    have AB : aaB D l = false := by unfold aaB; rw [hs, hl0]; simpa using hl
    have FIN := Lib.hid (show AaR D l w (.returned (.tuple #[.slice none 0 0, .agg #[.slice none 0 0, .slice none 0 0, .slice none 0 0, .slice none 0 0, .int .i64 0, .int .i64 0, .int .i64 0, .int .i64 0, .int .i64 0, .int .i64 0, .int .i64 0, .int .i64 0, .int .i64 0, .slice none 0 0], .bool false])) (puts u0 (w.heap.size + 1) [(0, .slice none 0 0), (1, .slice none 0 0), (2, .slice none 0 0), (3, .slice none 0 0), (4, .int .i64 0), (5, .int .i64 0), (6, .int .i64 0), (7, .int .i64 0), (8, .int .i64 0), (9, .int .i64 0), (10, .int .i64 0), (11, .int .i64 0), (12, .int .i64 0), (13, .slice none 0 0)]) from ⟨none, none, none, none, none, none, 0, 0, 0, 0, 0, 0, 0, 0, 0, 0, 0, 0, sv0, by unfold aaD; rw [AB]; rfl, by rw [AB]; rfl, sv0_R _, by unfold aaC; rw [AB]; exact ⟨Ints.nil_, by omega⟩, FB.out⟩)
    clear RX FB X1 X2 HV HL HB
    go_wp2
    exact bodyPost_ret (v := .tuple #[.slice none 0 0, .agg #[.slice none 0 0, .slice none 0 0, .slice none 0 0, .slice none 0 0, .int .i64 0, .int .i64 0, .int .i64 0, .int .i64 0, .int .i64 0, .int .i64 0, .int .i64 0, .int .i64 0, .int .i64 0, .slice none 0 0], .bool false]) (by simp [results, Tryz.results42, go_sem, r0_, r1_, r2_, r3_, r4_, r5_, r6_, r7_, r8_, r9_, r10_, r11_, r12_, r13_]) rfl FIN.out
  have d20 : decide ((20 : Int) < (tn : Int)) = false := decide_eq_false (by omega)
  have AB : aaB D l = true := by unfold aaB; rw [hs, hl0]; simpa using hl
  have h0 : 0 < n := (HV.out.sur.s.six (svB_parts hs).2.1).1
  have c0_ := bxc X1.out 0 _ rfl; have c1_ := bxc X1.out 1 _ rfl; have c2_ := bxc X1.out 2 _ rfl; have c3_ := bxc X1.out 3 _ rfl; have c4_ := bxc X1.out 4 _ rfl; have c5_ := bxc X1.out 5 _ rfl; have c6_ := bxc X1.out 6 _ rfl; have c7_ := bxc X1.out 7 _ rfl; have c8_ := bxc X1.out 8 _ rfl; have c9_ := bxc X1.out 9 _ rfl; have c10_ := bxc X1.out 10 _ rfl; have c11_ := bxc X1.out 11 _ rfl; have c12_ := bxc X1.out 12 _ rfl; have c13_ := bxc X1.out 13 _ rfl
  go_wp2_with fail
  clear c0_ c1_ c2_ c3_ c4_ c5_ c6_ c7_ c8_ c9_ c10_ c11_ c12_ c13_
  refine (copyServer_any P A Z Y Q g cg n c m cm p cp q cq D _ HV.out h0).mono ?_
  rintro e w3 ⟨P1, A1, Z1, Y1, Q1, cg1, c1, cm1, cp1, cq1, rfl, o1, d1, b3⟩
  have z3 := b3.size
  have hq1 := d1.len
  replace X1 := Lib.hid (bxb X1.out b3)
  replace X2 := Lib.hid (bxb X2.out b3)
  replace HB := Lib.hid (HB.out.trans (b3.mono HB.out.size))
  replace HL := Lib.hid (HL.out.below b3)
  have X1c := X1.out
  have X2c := X2.out
  clear b3 HV HS
  have S0 := Lib.hid (AaS.put (E := D) X1c HB.out (Nat.le_refl _) o1 d1)
  have hmk : ∀ W : World, (Instr.makeSlice 22 (.int .i64 (tn : Int)) (.int .i64 (tn : Int))).run Tryz.prog W = .ok (.slice (some ⟨W.heap.size, 0, none⟩) tn tn) (W.alloc (.cells (madeCells #[.int .i64 0] tn) 3)) := fun W => run_make_row' 22 3 (.int .i64 0) 8 Tryz.underlying22 Tryz.infoInt rfl .i64 .i64 tn (by omega) (by omega) W
  have hzn : (((((((((((((((w3).setCell ⟨w.heap.size, 0, none⟩ (.slice P1 g cg1)).setCell ⟨w.heap.size, 1, none⟩ (.slice A1 n c1)).setCell ⟨w.heap.size, 2, none⟩ (.slice Z1 m cm1)).setCell ⟨w.heap.size, 3, none⟩ (.slice Y1 p cp1)).setCell ⟨w.heap.size, 4, none⟩ (.int .i64 D.cost.a)).setCell ⟨w.heap.size, 5, none⟩ (.int .i64 D.cost.b)).setCell ⟨w.heap.size, 6, none⟩ (.int .i64 D.cost.c)).setCell ⟨w.heap.size, 7, none⟩ (.int .i64 D.cost.d)).setCell ⟨w.heap.size, 8, none⟩ (.int .i64 D.bud.a)).setCell ⟨w.heap.size, 9, none⟩ (.int .i64 D.bud.b)).setCell ⟨w.heap.size, 10, none⟩ (.int .i64 D.bud.c)).setCell ⟨w.heap.size, 11, none⟩ (.int .i64 D.bud.d)).setCell ⟨w.heap.size, 12, none⟩ (.int .i64 D.floor)).setCell ⟨w.heap.size, 13, none⟩ (.slice Q1 q cq1)).heap.size = w3.heap.size := by rw [← puts14]; exact puts_size _ _
  have O0 := own_made (((((((((((((((w3).setCell ⟨w.heap.size, 0, none⟩ (.slice P1 g cg1)).setCell ⟨w.heap.size, 1, none⟩ (.slice A1 n c1)).setCell ⟨w.heap.size, 2, none⟩ (.slice Z1 m cm1)).setCell ⟨w.heap.size, 3, none⟩ (.slice Y1 p cp1)).setCell ⟨w.heap.size, 4, none⟩ (.int .i64 D.cost.a)).setCell ⟨w.heap.size, 5, none⟩ (.int .i64 D.cost.b)).setCell ⟨w.heap.size, 6, none⟩ (.int .i64 D.cost.c)).setCell ⟨w.heap.size, 7, none⟩ (.int .i64 D.cost.d)).setCell ⟨w.heap.size, 8, none⟩ (.int .i64 D.bud.a)).setCell ⟨w.heap.size, 9, none⟩ (.int .i64 D.bud.b)).setCell ⟨w.heap.size, 10, none⟩ (.int .i64 D.bud.c)).setCell ⟨w.heap.size, 11, none⟩ (.int .i64 D.bud.d)).setCell ⟨w.heap.size, 12, none⟩ (.int .i64 D.floor)).setCell ⟨w.heap.size, 13, none⟩ (.slice Q1 q cq1)) tn (by omega)
  rw [← acP_0 D l tn, hzn] at O0
  have bm := below_new (((((((((((((((w3).setCell ⟨w.heap.size, 0, none⟩ (.slice P1 g cg1)).setCell ⟨w.heap.size, 1, none⟩ (.slice A1 n c1)).setCell ⟨w.heap.size, 2, none⟩ (.slice Z1 m cm1)).setCell ⟨w.heap.size, 3, none⟩ (.slice Y1 p cp1)).setCell ⟨w.heap.size, 4, none⟩ (.int .i64 D.cost.a)).setCell ⟨w.heap.size, 5, none⟩ (.int .i64 D.cost.b)).setCell ⟨w.heap.size, 6, none⟩ (.int .i64 D.cost.c)).setCell ⟨w.heap.size, 7, none⟩ (.int .i64 D.cost.d)).setCell ⟨w.heap.size, 8, none⟩ (.int .i64 D.bud.a)).setCell ⟨w.heap.size, 9, none⟩ (.int .i64 D.bud.b)).setCell ⟨w.heap.size, 10, none⟩ (.int .i64 D.bud.c)).setCell ⟨w.heap.size, 11, none⟩ (.int .i64 D.bud.d)).setCell ⟨w.heap.size, 12, none⟩ (.int .i64 D.floor)).setCell ⟨w.heap.size, 13, none⟩ (.slice Q1 q cq1)) (.cells (madeCells #[.int .i64 0] tn) 3)
  have S1 := Lib.hid (S0.out.make (o := .cells (madeCells #[.int .i64 0] tn) 3))
  rw [hzn] at S1
  have OC := Lib.hid (OwnI.of_own O0 (by omega))
  have HW := Lib.hid hzn
  have p0_ := bxc X1c 0 _ rfl; have p1_ := bxc X1c 1 _ rfl; have p2_ := bxc X1c 2 _ rfl; have p3_ := bxc X1c 3 _ rfl; have p4_ := bxc X1c 4 _ rfl; have p5_ := bxc X1c 5 _ rfl; have p6_ := bxc X1c 6 _ rfl; have p7_ := bxc X1c 7 _ rfl; have p8_ := bxc X1c 8 _ rfl; have p9_ := bxc X1c 9 _ rfl; have p10_ := bxc X1c 10 _ rfl; have p11_ := bxc X1c 11 _ rfl; have p12_ := bxc X1c 12 _ rfl; have p13_ := bxc X1c 13 _ rfl
  have g0_ := bxf X1c 0; have g1_ := bxf X1c 1; have g2_ := bxf X1c 2; have g3_ := bxf X1c 3; have g4_ := bxf X1c 4; have g5_ := bxf X1c 5; have g6_ := bxf X1c 6; have g7_ := bxf X1c 7; have g8_ := bxf X1c 8; have g9_ := bxf X1c 9; have g10_ := bxf X1c 10; have g11_ := bxf X1c 11; have g12_ := bxf X1c 12; have g13_ := bxf X1c 13
  have lx := lt_of_block X1c
  have HR3 := Lib.hid X2c
  clear O0 bm S0 hzn HB X1 X2 X1c X2c
  go_wp2
  clear hmk lx p0_ p1_ p2_ p3_ p4_ p5_ p6_ p7_ p8_ p9_ p10_ p11_ p12_ p13_ g0_ g1_ g2_ g3_ g4_ g5_ g6_ g7_ g8_ g9_ g10_ g11_ g12_ g13_
  try rw [HW.out]
  generalize (((((((((((((((w3).setCell ⟨w.heap.size, 0, none⟩ (.slice P1 g cg1)).setCell ⟨w.heap.size, 1, none⟩ (.slice A1 n c1)).setCell ⟨w.heap.size, 2, none⟩ (.slice Z1 m cm1)).setCell ⟨w.heap.size, 3, none⟩ (.slice Y1 p cp1)).setCell ⟨w.heap.size, 4, none⟩ (.int .i64 D.cost.a)).setCell ⟨w.heap.size, 5, none⟩ (.int .i64 D.cost.b)).setCell ⟨w.heap.size, 6, none⟩ (.int .i64 D.cost.c)).setCell ⟨w.heap.size, 7, none⟩ (.int .i64 D.cost.d)).setCell ⟨w.heap.size, 8, none⟩ (.int .i64 D.bud.a)).setCell ⟨w.heap.size, 9, none⟩ (.int .i64 D.bud.b)).setCell ⟨w.heap.size, 10, none⟩ (.int .i64 D.bud.c)).setCell ⟨w.heap.size, 11, none⟩ (.int .i64 D.bud.d)).setCell ⟨w.heap.size, 12, none⟩ (.int .i64 D.floor)).setCell ⟨w.heap.size, 13, none⟩ (.slice Q1 q cq1)).alloc (.cells (madeCells #[.int .i64 0] tn) 3) = w4 at *
  go_loopw [26] (fun i wr => ∃ (k : Nat) (Q1 : Option Addr) (q1 cq1 : Nat) (E : SvD), k ≤ tn ∧ i = .int .i64 k ∧ Hid (E = askN D l k) ∧ Hid (AaS w w3 w.heap.size (some ⟨w3.heap.size, 0, none⟩) wr P1 A1 Z1 Y1 Q1 g cg1 n c1 m cm1 p cp1 q1 cq1 E) ∧ Hid (OwnI wr w3.heap.size wr.heap.size (some ⟨w3.heap.size, 0, none⟩) tn tn (acP D l tn k))) (fun i _ => tn - (intOf i).toNat)
  case atStart => exact ⟨0, Q1, q, cq1, D, Nat.zero_le _, rfl, Lib.hid rfl, S1, OC⟩
  case round =>
    clear S1 OC
    obtain ⟨k, Q1, q1, cq1, E, hk, rfl, hE, HS1, OC⟩ := hrel
    have hlk := HS1.out.dtl.len
    have hak := askN_asked_le D l k
    rw [← hE.out] at hak
    have hq9 : q1 ≤ 900020 := by omega
    clear hak
    by_cases hlt : k < tn
    case pos =>
      obtain ⟨ad, rfl, V, mt, d, U, kt, e', u0, u1, u2, u3, hu⟩ := (HLW.out.below HS1.out.bl).at_ hlt
      have bk := below_new wr (.cells #[.int .i64 (tX l k).lv, .slice V mt d, .slice U kt e', .int .i64 (tX l k).sum] 56)
      have XN := Lib.hid (box_new wr #[.int .i64 (tX l k).lv, .slice V mt d, .slice U kt e', .int .i64 (tX l k).sum] 56)
      have S4 := Lib.hid (HS1.out.below bk)
      have OC4 := Lib.hid (OC.out.belT bk)
      have HU := Lib.hid (hu.below bk)
      have hEs : svB E = true := by rw [hE.out]; exact askN_sv hs l k
      clear HS1 OC hu bk
      have n0_ := bxc XN.out 0 _ rfl; have n1_ := bxc XN.out 1 _ rfl; have n2_ := bxc XN.out 2 _ rfl; have n3_ := bxc XN.out 3 _ rfl
      have c0_ := bxc S4.out.xb 0 _ rfl; have c1_ := bxc S4.out.xb 1 _ rfl; have c2_ := bxc S4.out.xb 2 _ rfl; have c3_ := bxc S4.out.xb 3 _ rfl; have c4_ := bxc S4.out.xb 4 _ rfl; have c5_ := bxc S4.out.xb 5 _ rfl; have c6_ := bxc S4.out.xb 6 _ rfl; have c7_ := bxc S4.out.xb 7 _ rfl; have c8_ := bxc S4.out.xb 8 _ rfl; have c9_ := bxc S4.out.xb 9 _ rfl; have c10_ := bxc S4.out.xb 10 _ rfl; have c11_ := bxc S4.out.xb 11 _ rfl; have c12_ := bxc S4.out.xb 12 _ rfl; have c13_ := bxc S4.out.xb 13 _ rfl
      have ln := lt_of_block XN.out
      have lx := lt_of_block S4.out.xb
      go_wp2_with fail
      clear ln lx u0 u1 u2 u3 n0_ n1_ n2_ n3_ XN c0_ c1_ c2_ c3_ c4_ c5_ c6_ c7_ c8_ c9_ c10_ c11_ c12_ c13_
      generalize wr.alloc (.cells #[.int .i64 (tX l k).lv, .slice V mt d, .slice U kt e', .int .i64 (tX l k).sum] 56) = w4 at *
      refine (askTable_any P1 A1 Z1 Y1 Q1 g cg1 n c1 m cm1 p cp1 q1 cq1 E V U mt d kt e' (tX l k) 0 w4 (sv_ok hEs) (sv_los hEs).1 (sv_los hEs).2 (sv_asks hEs hlk) (S4.out.sv (by omega)).sur HU.out (S4.out.sv (by omega)).plan S4.out.dtl (Nat.zero_le _) (by omega)).mono ?_
      rintro e w5 ⟨Q2, q2, cq2, B2, nb, cb, rfl, dQ2, oB, b5, _, hdis⟩
      have X5 := Lib.hid (S4.out.below b5).xb
      have hz5 := b5.size
      have S6 := Lib.hid (S4.out.ask b5 hdis)
      have OC6 := Lib.hid (ownI_p14 (y0 := .slice P1 g cg1) (y1 := .slice A1 n c1) (y2 := .slice Z1 m cm1) (y3 := .slice Y1 p cp1) (y4 := .int .i64 E.cost.a) (y5 := .int .i64 E.cost.b) (y6 := .int .i64 E.cost.c) (y7 := .int .i64 E.cost.d) (y8 := .int .i64 E.bud.a) (y9 := .int .i64 E.bud.b) (y10 := .int .i64 E.bud.c) (y11 := .int .i64 E.bud.d) (y12 := .int .i64 E.floor) (y13 := .slice Q2 q2 cq2) (OC4.out.belT b5) X5.out)
      have hcE : acK D l k = codeV E E.asked (tX l k) := by unfold acK; rw [hE.out]
      obtain ⟨_, ea, _, hlo, hco, hfo⟩ := OC6.out.own.at_ hlt
      injection ea with ea
      injection ea with ea
      subst ea
      have S7 := Lib.hid (S6.out.set (k := k) (x := codeV E E.asked (tX l k)))
      have OC7 := Lib.hid (OC6.out.setZ (k := k) (x := codeV E E.asked (tX l k)))
      rw [← hcE, acP_set hlt, hcE] at OC7
      generalize codeV E E.asked (tX l k) = kk at *
      generalize hge : (acP D l tn k)[k]?.getD 0 = ov at hco
      clear hge
      have p0_ := bxc X5.out 0 _ rfl; have p1_ := bxc X5.out 1 _ rfl; have p2_ := bxc X5.out 2 _ rfl; have p3_ := bxc X5.out 3 _ rfl; have p4_ := bxc X5.out 4 _ rfl; have p5_ := bxc X5.out 5 _ rfl; have p6_ := bxc X5.out 6 _ rfl; have p7_ := bxc X5.out 7 _ rfl; have p8_ := bxc X5.out 8 _ rfl; have p9_ := bxc X5.out 9 _ rfl; have p10_ := bxc X5.out 10 _ rfl; have p11_ := bxc X5.out 11 _ rfl; have p12_ := bxc X5.out 12 _ rfl; have p13_ := bxc X5.out 13 _ rfl
      have g0_ := bxf X5.out 0; have g1_ := bxf X5.out 1; have g2_ := bxf X5.out 2; have g3_ := bxf X5.out 3; have g4_ := bxf X5.out 4; have g5_ := bxf X5.out 5; have g6_ := bxf X5.out 6; have g7_ := bxf X5.out 7; have g8_ := bxf X5.out 8; have g9_ := bxf X5.out 9; have g10_ := bxf X5.out 10; have g11_ := bxf X5.out 11; have g12_ := bxf X5.out 12; have g13_ := bxf X5.out 13
      have lx := lt_of_block X5.out
      clear S4 OC4 S6 OC6 X5 HU b5 hdis dQ2 oB
      go_wp2
      go_roundw
      case rel => exact ⟨k + 1, Q2, q2, cq2, askD E (tX l k), by omega, by go_num, Lib.hid (by rw [hE.out]; rfl), S7, OC7⟩
      case measure => simp [intOf]; omega
    case neg =>
      obtain rfl : k = tn := by omega
      have XR : Hid (wr.heap[w.heap.size + 1]? = some (.cells #[.slice none 0 0, .slice none 0 0, .slice none 0 0, .slice none 0 0, .int .i64 0, .int .i64 0, .int .i64 0, .int .i64 0, .int .i64 0, .int .i64 0, .int .i64 0, .int .i64 0, .int .i64 0, .slice none 0 0] 44 (0, 0))) := Lib.hid ((HS1.out.fr _ (by first | exact lt_of_block HR3.out | omega) (by omega)).trans HR3.out)
      have p0_ := bxc XR.out 0 _ rfl; have p1_ := bxc XR.out 1 _ rfl; have p2_ := bxc XR.out 2 _ rfl; have p3_ := bxc XR.out 3 _ rfl; have p4_ := bxc XR.out 4 _ rfl; have p5_ := bxc XR.out 5 _ rfl; have p6_ := bxc XR.out 6 _ rfl; have p7_ := bxc XR.out 7 _ rfl; have p8_ := bxc XR.out 8 _ rfl; have p9_ := bxc XR.out 9 _ rfl; have p10_ := bxc XR.out 10 _ rfl; have p11_ := bxc XR.out 11 _ rfl; have p12_ := bxc XR.out 12 _ rfl; have p13_ := bxc XR.out 13 _ rfl
      have g0_ := bxf XR.out 0; have g1_ := bxf XR.out 1; have g2_ := bxf XR.out 2; have g3_ := bxf XR.out 3; have g4_ := bxf XR.out 4; have g5_ := bxf XR.out 5; have g6_ := bxf XR.out 6; have g7_ := bxf XR.out 7; have g8_ := bxf XR.out 8; have g9_ := bxf XR.out 9; have g10_ := bxf XR.out 10; have g11_ := bxf XR.out 11; have g12_ := bxf XR.out 12; have g13_ := bxf XR.out 13
      have i0_ := bxc HS1.out.xb 0 _ rfl; have i1_ := bxc HS1.out.xb 1 _ rfl; have i2_ := bxc HS1.out.xb 2 _ rfl; have i3_ := bxc HS1.out.xb 3 _ rfl; have i4_ := bxc HS1.out.xb 4 _ rfl; have i5_ := bxc HS1.out.xb 5 _ rfl; have i6_ := bxc HS1.out.xb 6 _ rfl; have i7_ := bxc HS1.out.xb 7 _ rfl; have i8_ := bxc HS1.out.xb 8 _ rfl; have i9_ := bxc HS1.out.xb 9 _ rfl; have i10_ := bxc HS1.out.xb 10 _ rfl; have i11_ := bxc HS1.out.xb 11 _ rfl; have i12_ := bxc HS1.out.xb 12 _ rfl; have i13_ := bxc HS1.out.xb 13 _ rfl
      have ly := lt_of_block XR.out
      have lx := lt_of_block HS1.out.xb
      have RX := Lib.hid (fill14n (y0 := .slice P1 g cg1) (y1 := .slice A1 n c1) (y2 := .slice Z1 m cm1) (y3 := .slice Y1 p cp1) (y4 := .int .i64 E.cost.a) (y5 := .int .i64 E.cost.b) (y6 := .int .i64 E.cost.c) (y7 := .int .i64 E.cost.d) (y8 := .int .i64 E.bud.a) (y9 := .int .i64 E.bud.b) (y10 := .int .i64 E.bud.c) (y11 := .int .i64 E.bud.d) (y12 := .int .i64 E.floor) (y13 := .slice Q1 q1 cq1) XR.out)
      have r0_ := bxc RX.out 0 (.slice P1 g cg1) rfl; have r1_ := bxc RX.out 1 (.slice A1 n c1) rfl; have r2_ := bxc RX.out 2 (.slice Z1 m cm1) rfl; have r3_ := bxc RX.out 3 (.slice Y1 p cp1) rfl; have r4_ := bxc RX.out 4 (.int .i64 E.cost.a) rfl; have r5_ := bxc RX.out 5 (.int .i64 E.cost.b) rfl; have r6_ := bxc RX.out 6 (.int .i64 E.cost.c) rfl; have r7_ := bxc RX.out 7 (.int .i64 E.cost.d) rfl; have r8_ := bxc RX.out 8 (.int .i64 E.bud.a) rfl; have r9_ := bxc RX.out 9 (.int .i64 E.bud.b) rfl; have r10_ := bxc RX.out 10 (.int .i64 E.bud.c) rfl; have r11_ := bxc RX.out 11 (.int .i64 E.bud.d) rfl; have r12_ := bxc RX.out 12 (.int .i64 E.floor) rfl; have r13_ := bxc RX.out 13 (.slice Q1 q1 cq1) rfl
      have e1 := fun j (hj : j ≠ w.heap.size + 1) => puts_ne (g := w.heap.size + 1) [(0, .slice P1 g cg1), (1, .slice A1 n c1), (2, .slice Z1 m cm1), (3, .slice Y1 p cp1), (4, .int .i64 E.cost.a), (5, .int .i64 E.cost.b), (6, .int .i64 E.cost.c), (7, .int .i64 E.cost.d), (8, .int .i64 E.bud.a), (9, .int .i64 E.bud.b), (10, .int .i64 E.bud.c), (11, .int .i64 E.bud.d), (12, .int .i64 E.floor), (13, .slice Q1 q1 cq1)] wr hj
      have e2 := puts_size (g := w.heap.size + 1) [(0, .slice P1 g cg1), (1, .slice A1 n c1), (2, .slice Z1 m cm1), (3, .slice Y1 p cp1), (4, .int .i64 E.cost.a), (5, .int .i64 E.cost.b), (6, .int .i64 E.cost.c), (7, .int .i64 E.cost.d), (8, .int .i64 E.bud.a), (9, .int .i64 E.bud.b), (10, .int .i64 E.bud.c), (11, .int .i64 E.bud.d), (12, .int .i64 E.floor), (13, .slice Q1 q1 cq1)] wr
      have FB := puts_below (g := w.heap.size + 1) [(0, .slice P1 g cg1), (1, .slice A1 n c1), (2, .slice Z1 m cm1), (3, .slice Y1 p cp1), (4, .int .i64 E.cost.a), (5, .int .i64 E.cost.b), (6, .int .i64 E.cost.c), (7, .int .i64 E.cost.d), (8, .int .i64 E.bud.a), (9, .int .i64 E.bud.b), (10, .int .i64 E.bud.c), (11, .int .i64 E.bud.d), (12, .int .i64 E.floor), (13, .slice Q1 q1 cq1)] wr HS1.out.bl (by omega)
      have F1 := HS1.out.cso.off XR.out e1 e2
      have F2 := HS1.out.dtl.off XR.out (by decide) (by decide) e1 e2
      have IC := (OC.out.offT XR.out (by decide) e1).intR
      have FIN := Lib.hid (show AaR D l w (.returned (.tuple #[.slice (some ⟨w3.heap.size, 0, none⟩) k k, .agg #[.slice P1 g cg1, .slice A1 n c1, .slice Z1 m cm1, .slice Y1 p cp1, .int .i64 E.cost.a, .int .i64 E.cost.b, .int .i64 E.cost.c, .int .i64 E.cost.d, .int .i64 E.bud.a, .int .i64 E.bud.b, .int .i64 E.bud.c, .int .i64 E.bud.d, .int .i64 E.floor, .slice Q1 q1 cq1], .bool true])) (puts wr (w.heap.size + 1) [(0, .slice P1 g cg1), (1, .slice A1 n c1), (2, .slice Z1 m cm1), (3, .slice Y1 p cp1), (4, .int .i64 E.cost.a), (5, .int .i64 E.cost.b), (6, .int .i64 E.cost.c), (7, .int .i64 E.cost.d), (8, .int .i64 E.bud.a), (9, .int .i64 E.bud.b), (10, .int .i64 E.bud.c), (11, .int .i64 E.bud.d), (12, .int .i64 E.floor), (13, .slice Q1 q1 cq1)]) from ⟨P1, A1, Z1, Y1, Q1, _, g, cg1, n, c1, m, cm1, p, cp1, q1, cq1, _, _, E, by unfold aaD; rw [if_pos AB, hl0]; exact hE.out, by rw [AB], F1.sv F2 (by omega), by unfold aaC; rw [if_pos AB, hl0, ← acP_n]; exact IC, FB⟩)
      clear F1 F2 IC e1 e2 FB RX HS1 OC XR
      go_wp2
      go_region
      go_wp2
      exact bodyPost_ret (v := .tuple #[.slice (some ⟨w3.heap.size, 0, none⟩) k k, .agg #[.slice P1 g cg1, .slice A1 n c1, .slice Z1 m cm1, .slice Y1 p cp1, .int .i64 E.cost.a, .int .i64 E.cost.b, .int .i64 E.cost.c, .int .i64 E.cost.d, .int .i64 E.bud.a, .int .i64 E.bud.b, .int .i64 E.bud.c, .int .i64 E.bud.d, .int .i64 E.floor, .slice Q1 q1 cq1], .bool true]) (by simp [results, Tryz.results42, go_sem, r0_, r1_, r2_, r3_, r4_, r5_, r6_, r7_, r8_, r9_, r10_, r11_, r12_, r13_]) rfl FIN.out.drew
end

section
open Go.RowKit

set_option maxRecDepth 100000 in
set_option maxHeartbeats 4000000 in
theorem specAskAll_any (P A Z Y Q L : Option Addr) (g cg n c m cm p cp q cq tn tc : Nat) (D : SvD) (l : List TabD) (w : World) (hV : SvR w P A Z Y Q g n c m p cp q cq D) (hL : TabsR w L tn l) (hq : q ≤ 900000) :
    Calls Tryz.prog 43 #[.agg #[.slice P g cg, .slice A n c, .slice Z m cm, .slice Y p cp, .int .i64 D.cost.a, .int .i64 D.cost.b, .int .i64 D.cost.c, .int .i64 D.cost.d, .int .i64 D.bud.a, .int .i64 D.bud.b, .int .i64 D.bud.c, .int .i64 D.bud.d, .int .i64 D.floor, .slice Q q cq], .slice L tn tc] w (AaR D l w) := by
  obtain ⟨b0, x1, x2⟩ := box_two w #[.slice P g cg, .slice A n c, .slice Z m cm, .slice Y p cp, .int .i64 D.cost.a, .int .i64 D.cost.b, .int .i64 D.cost.c, .int .i64 D.cost.d, .int .i64 D.bud.a, .int .i64 D.bud.b, .int .i64 D.bud.c, .int .i64 D.bud.d, .int .i64 D.floor, .slice Q q cq] #[.slice none 0 0, .slice none 0 0, .slice none 0 0, .slice none 0 0, .int .i64 0, .int .i64 0, .int .i64 0, .int .i64 0, .int .i64 0, .int .i64 0, .int .i64 0, .int .i64 0, .int .i64 0, .slice none 0 0] 44 44
  have HLW := Lib.hid hL
  have HS := Lib.hid (show ((w.alloc (.cells #[.slice P g cg, .slice A n c, .slice Z m cm, .slice Y p cp, .int .i64 D.cost.a, .int .i64 D.cost.b, .int .i64 D.cost.c, .int .i64 D.cost.d, .int .i64 D.bud.a, .int .i64 D.bud.b, .int .i64 D.bud.c, .int .i64 D.bud.d, .int .i64 D.floor, .slice Q q cq] 44)).alloc (.cells #[.slice none 0 0, .slice none 0 0, .slice none 0 0, .slice none 0 0, .int .i64 0, .int .i64 0, .int .i64 0, .int .i64 0, .int .i64 0, .int .i64 0, .int .i64 0, .int .i64 0, .int .i64 0, .slice none 0 0] 44)).heap.size = w.heap.size + 1 + 1 by simp)
  have HV := Lib.hid (hV.below b0)
  have HL := Lib.hid (hL.below b0)
  have hl0 := hL.len
  have hlb := hL.bd
  have X1 := Lib.hid x1
  have X2 := Lib.hid x2
  have HB := Lib.hid b0
  clear b0 x1 x2 hV hL
  go_enter Tryz.func43, Tryz.ntmps43
  have l1 := lt_of_block X1.out
  have c0_ := bxc X1.out 0 _ rfl; have c1_ := bxc X1.out 1 _ rfl; have c2_ := bxc X1.out 2 _ rfl; have c3_ := bxc X1.out 3 _ rfl; have c4_ := bxc X1.out 4 _ rfl; have c5_ := bxc X1.out 5 _ rfl; have c6_ := bxc X1.out 6 _ rfl; have c7_ := bxc X1.out 7 _ rfl; have c8_ := bxc X1.out 8 _ rfl; have c9_ := bxc X1.out 9 _ rfl; have c10_ := bxc X1.out 10 _ rfl; have c11_ := bxc X1.out 11 _ rfl; have c12_ := bxc X1.out 12 _ rfl; have c13_ := bxc X1.out 13 _ rfl
  go_wp2_with fail
  clear l1 c0_ c1_ c2_ c3_ c4_ c5_ c6_ c7_ c8_ c9_ c10_ c11_ c12_ c13_
  generalize ((w.alloc (.cells #[.slice P g cg, .slice A n c, .slice Z m cm, .slice Y p cp, .int .i64 D.cost.a, .int .i64 D.cost.b, .int .i64 D.cost.c, .int .i64 D.cost.d, .int .i64 D.bud.a, .int .i64 D.bud.b, .int .i64 D.bud.c, .int .i64 D.bud.d, .int .i64 D.floor, .slice Q q cq] 44)).alloc (.cells #[.slice none 0 0, .slice none 0 0, .slice none 0 0, .slice none 0 0, .int .i64 0, .int .i64 0, .int .i64 0, .int .i64 0, .int .i64 0, .int .i64 0, .int .i64 0, .int .i64 0, .int .i64 0, .slice none 0 0] 44)) = w1 at *
  have hs1 : w.heap.size + 1 + 1 ≤ w1.heap.size := Nat.le_of_eq HS.out.symm
  refine (jGood_any P A Z Y Q g cg n c m cm p cp q cq D _ HV.out.hcp HV.out.hcq HV.out.sur HV.out.plan HV.out.asked).mono ?_
  rintro e u0 ⟨rfl, b1⟩
  have hs0 : w.heap.size + 1 + 1 ≤ u0.heap.size := Nat.le_trans hs1 b1.size
  replace HV := Lib.hid (HV.out.below b1)
  replace HL := Lib.hid (HL.out.below b1)
  replace X1 := Lib.hid (bxb X1.out b1)
  replace X2 := Lib.hid (bxb X2.out b1)
  replace HB := Lib.hid (HB.out.trans (b1.mono HB.out.size))
  clear b1
  have l1 := lt_of_block X1.out
  have l2 := lt_of_block X2.out
  cases hs : svB D
  · have p0_ := bxc X2.out 0 _ rfl; have p1_ := bxc X2.out 1 _ rfl; have p2_ := bxc X2.out 2 _ rfl; have p3_ := bxc X2.out 3 _ rfl; have p4_ := bxc X2.out 4 _ rfl; have p5_ := bxc X2.out 5 _ rfl; have p6_ := bxc X2.out 6 _ rfl; have p7_ := bxc X2.out 7 _ rfl; have p8_ := bxc X2.out 8 _ rfl; have p9_ := bxc X2.out 9 _ rfl; have p10_ := bxc X2.out 10 _ rfl; have p11_ := bxc X2.out 11 _ rfl; have p12_ := bxc X2.out 12 _ rfl; have p13_ := bxc X2.out 13 _ rfl
    have g0_ := bxf X2.out 0; have g1_ := bxf X2.out 1; have g2_ := bxf X2.out 2; have g3_ := bxf X2.out 3; have g4_ := bxf X2.out 4; have g5_ := bxf X2.out 5; have g6_ := bxf X2.out 6; have g7_ := bxf X2.out 7; have g8_ := bxf X2.out 8; have g9_ := bxf X2.out 9; have g10_ := bxf X2.out 10; have g11_ := bxf X2.out 11; have g12_ := bxf X2.out 12; have g13_ := bxf X2.out 13
    have RX := Lib.hid (fill14n (y0 := .slice none 0 0) (y1 := .slice none 0 0) (y2 := .slice none 0 0) (y3 := .slice none 0 0) (y4 := .int .i64 0) (y5 := .int .i64 0) (y6 := .int .i64 0) (y7 := .int .i64 0) (y8 := .int .i64 0) (y9 := .int .i64 0) (y10 := .int .i64 0) (y11 := .int .i64 0) (y12 := .int .i64 0) (y13 := .slice none 0 0) X2.out)
    have r0_ := bxc RX.out 0 (.slice none 0 0) rfl; have r1_ := bxc RX.out 1 (.slice none 0 0) rfl; have r2_ := bxc RX.out 2 (.slice none 0 0) rfl; have r3_ := bxc RX.out 3 (.slice none 0 0) rfl; have r4_ := bxc RX.out 4 (.int .i64 0) rfl; have r5_ := bxc RX.out 5 (.int .i64 0) rfl; have r6_ := bxc RX.out 6 (.int .i64 0) rfl; have r7_ := bxc RX.out 7 (.int .i64 0) rfl; have r8_ := bxc RX.out 8 (.int .i64 0) rfl; have r9_ := bxc RX.out 9 (.int .i64 0) rfl; have r10_ := bxc RX.out 10 (.int .i64 0) rfl; have r11_ := bxc RX.out 11 (.int .i64 0) rfl; have r12_ := bxc RX.out 12 (.int .i64 0) rfl; have r13_ := bxc RX.out 13 (.slice none 0 0) rfl
    have FB := Lib.hid (puts_below (g := w.heap.size + 1) [(0, .slice none 0 0), (1, .slice none 0 0), (2, .slice none 0 0), (3, .slice none 0 0), (4, .int .i64 0), (5, .int .i64 0), (6, .int .i64 0), (7, .int .i64 0), (8, .int .i64 0), (9, .int .i64 0), (10, .int .i64 0), (11, .int .i64 0), (12, .int .i64 0), (13, .slice none 0 0)] u0 HB.out (by omega))
    have AB : aaB D l = false := by unfold aaB; rw [hs]; rfl
    have FIN := Lib.hid (show AaR D l w (.returned (.tuple #[.slice none 0 0, .agg #[.slice none 0 0, .slice none 0 0, .slice none 0 0, .slice none 0 0, .int .i64 0, .int .i64 0, .int .i64 0, .int .i64 0, .int .i64 0, .int .i64 0, .int .i64 0, .int .i64 0, .int .i64 0, .slice none 0 0], .bool false])) (puts u0 (w.heap.size + 1) [(0, .slice none 0 0), (1, .slice none 0 0), (2, .slice none 0 0), (3, .slice none 0 0), (4, .int .i64 0), (5, .int .i64 0), (6, .int .i64 0), (7, .int .i64 0), (8, .int .i64 0), (9, .int .i64 0), (10, .int .i64 0), (11, .int .i64 0), (12, .int .i64 0), (13, .slice none 0 0)]) from ⟨none, none, none, none, none, none, 0, 0, 0, 0, 0, 0, 0, 0, 0, 0, 0, 0, sv0, by unfold aaD; rw [AB]; rfl, by rw [AB]; rfl, sv0_R _, by unfold aaC; rw [AB]; exact ⟨Ints.nil_, by omega⟩, FB.out⟩)
    clear RX FB X1 X2 HV HL HB
    go_wp2
    exact bodyPost_ret (v := .tuple #[.slice none 0 0, .agg #[.slice none 0 0, .slice none 0 0, .slice none 0 0, .slice none 0 0, .int .i64 0, .int .i64 0, .int .i64 0, .int .i64 0, .int .i64 0, .int .i64 0, .int .i64 0, .int .i64 0, .int .i64 0, .slice none 0 0], .bool false]) (by simp [results, Tryz.results43, go_sem, r0_, r1_, r2_, r3_, r4_, r5_, r6_, r7_, r8_, r9_, r10_, r11_, r12_, r13_]) rfl FIN.out
  by_cases hl : tn ≤ 20
  case neg =>
    have d20 : decide ((20 : Int) < (tn : Int)) = true := decide_eq_true (by omega)
    have p0_ := bxc X2.out 0 _ rfl; have p1_ := bxc X2.out 1 _ rfl; have p2_ := bxc X2.out 2 _ rfl; have p3_ := bxc X2.out 3 _ rfl; have p4_ := bxc X2.out 4 _ rfl; have p5_ := bxc X2.out 5 _ rfl; have p6_ := bxc X2.out 6 _ rfl; have p7_ := bxc X2.out 7 _ rfl; have p8_ := bxc X2.out 8 _ rfl; have p9_ := bxc X2.out 9 _ rfl; have p10_ := bxc X2.out 10 _ rfl; have p11_ := bxc X2.out 11 _ rfl; have p12_ := bxc X2.out 12 _ rfl; have p13_ := bxc X2.out 13 _ rfl
    have g0_ := bxf X2.out 0; have g1_ := bxf X2.out 1; have g2_ := bxf X2.out 2; have g3_ := bxf X2.out 3; have g4_ := bxf X2.out 4; have g5_ := bxf X2.out 5; have g6_ := bxf X2.out 6; have g7_ := bxf X2.out 7; have g8_ := bxf X2.out 8; have g9_ := bxf X2.out 9; have g10_ := bxf X2.out 10; have g11_ := bxf X2.out 11; have g12_ := bxf X2.out 12; have g13_ := bxf X2.out 13
    have RX := Lib.hid (fill14n (y0 := .slice none 0 0) (y1 := .slice none 0 0) (y2 := .slice none 0 0) (y3 := .slice none 0 0) (y4 := .int .i64 0) (y5 := .int .i64 0) (y6 := .int .i64 0) (y7 := .int .i64 0) (y8 := .int .i64 0) (y9 := .int .i64 0) (y10 := .int .i64 0) (y11 := .int .i64 0) (y12 := .int .i64 0) (y13 := .slice none 0 0) X2.out)
    have r0_ := bxc RX.out 0 (.slice none 0 0) rfl; have r1_ := bxc RX.out 1 (.slice none 0 0) rfl; have r2_ := bxc RX.out 2 (.slice none 0 0) rfl; have r3_ := bxc RX.out 3 (.slice none 0 0) rfl; have r4_ := bxc RX.out 4 (.int .i64 0) rfl; have r5_ := bxc RX.out 5 (.int .i64 0) rfl; have r6_ := bxc RX.out 6 (.int .i64 0) rfl; have r7_ := bxc RX.out 7 (.int .i64 0) rfl; have r8_ := bxc RX.out 8 (.int .i64 0) rfl; have r9_ := bxc RX.out 9 (.int .i64 0) rfl; have r10_ := bxc RX.out 10 (.int .i64 0) rfl; have r11_ := bxc RX.out 11 (.int .i64 0) rfl; have r12_ := bxc RX.out 12 (.int .i64 0) rfl; have r13_ := bxc RX.out 13 (.slice none 0 0) rfl
    have FB := Lib.hid (puts_below (g := w.heap.size + 1) [(0, .slice none 0 0), (1, .slice none 0 0), (2, .slice none 0 0), (3, .slice none 0 0), (4, .int .i64 0), (5, .int .i64 0), (6, .int .i64 0), (7, .int .i64 0), (8, .int .i64 0), (9, .int .i64 0), (10, .int .i64 0), (11, .int .i64 0), (12, .int .i64 0), (13, .slice none 0 0)] u0 HB.out (by omega))
    have AB : aaB D l = false := by unfold aaB; rw [hs, hl0]; simpa using hl
    have FIN := Lib.hid (show AaR D l w (.returned (.tuple #[.slice none 0 0, .agg #[.slice none 0 0, .slice none 0 0, .slice none 0 0, .slice none 0 0, .int .i64 0, .int .i64 0, .int .i64 0, .int .i64 0, .int .i64 0, .int .i64 0, .int .i64 0, .int .i64 0, .int .i64 0, .slice none 0 0], .bool false])) (puts u0 (w.heap.size + 1) [(0, .slice none 0 0), (1, .slice none 0 0), (2, .slice none 0 0), (3, .slice none 0 0), (4, .int .i64 0), (5, .int .i64 0), (6, .int .i64 0), (7, .int .i64 0), (8, .int .i64 0), (9, .int .i64 0), (10, .int .i64 0), (11, .int .i64 0), (12, .int .i64 0), (13, .slice none 0 0)]) from ⟨none, none, none, none, none, none, 0, 0, 0, 0, 0, 0, 0, 0, 0, 0, 0, 0, sv0, by unfold aaD; rw [AB]; rfl, by rw [AB]; rfl, sv0_R _, by unfold aaC; rw [AB]; exact ⟨Ints.nil_, by omega⟩, FB.out⟩)
    clear RX FB X1 X2 HV HL HB
    go_wp2
    exact bodyPost_ret (v := .tuple #[.slice none 0 0, .agg #[.slice none 0 0, .slice none 0 0, .slice none 0 0, .slice none 0 0, .int .i64 0, .int .i64 0, .int .i64 0, .int .i64 0, .int .i64 0, .int .i64 0, .int .i64 0, .int .i64 0, .int .i64 0, .slice none 0 0], .bool false]) (by simp [results, Tryz.results43, go_sem, r0_, r1_, r2_, r3_, r4_, r5_, r6_, r7_, r8_, r9_, r10_, r11_, r12_, r13_]) rfl FIN.out
  have d20 : decide ((20 : Int) < (tn : Int)) = false := decide_eq_false (by omega)
  have AB : aaB D l = true := by unfold aaB; rw [hs, hl0]; simpa using hl
  have h0 : 0 < n := (HV.out.sur.s.six (svB_parts hs).2.1).1
  have c0_ := bxc X1.out 0 _ rfl; have c1_ := bxc X1.out 1 _ rfl; have c2_ := bxc X1.out 2 _ rfl; have c3_ := bxc X1.out 3 _ rfl; have c4_ := bxc X1.out 4 _ rfl; have c5_ := bxc X1.out 5 _ rfl; have c6_ := bxc X1.out 6 _ rfl; have c7_ := bxc X1.out 7 _ rfl; have c8_ := bxc X1.out 8 _ rfl; have c9_ := bxc X1.out 9 _ rfl; have c10_ := bxc X1.out 10 _ rfl; have c11_ := bxc X1.out 11 _ rfl; have c12_ := bxc X1.out 12 _ rfl; have c13_ := bxc X1.out 13 _ rfl
  go_wp2_with fail
  clear c0_ c1_ c2_ c3_ c4_ c5_ c6_ c7_ c8_ c9_ c10_ c11_ c12_ c13_
  refine (jOwn_any P A Z Y Q g cg n c m cm p cp q cq D _ HV.out hs).mono ?_
  rintro e w3 ⟨P1, A1, Z1, Y1, Q1, cg1, c1, cm1, cp1, cq1, rfl, o1, d1, b3⟩
  have z3 := b3.size
  have hq1 := d1.len
  replace X1 := Lib.hid (bxb X1.out b3)
  replace X2 := Lib.hid (bxb X2.out b3)
  replace HB := Lib.hid (HB.out.trans (b3.mono HB.out.size))
  replace HL := Lib.hid (HL.out.below b3)
  have X1c := X1.out
  have X2c := X2.out
  clear b3 HV HS
  have x9 := box_new w3 #[.slice P1 g cg1, .slice A1 n c1, .slice Z1 m cm1, .slice Y1 p cp1, .int .i64 D.cost.a, .int .i64 D.cost.b, .int .i64 D.cost.c, .int .i64 D.cost.d, .int .i64 D.bud.a, .int .i64 D.bud.b, .int .i64 D.bud.c, .int .i64 D.bud.d, .int .i64 D.floor, .slice Q1 q cq1] 44
  have b9 := below_new w3 (.cells #[.slice P1 g cg1, .slice A1 n c1, .slice Z1 m cm1, .slice Y1 p cp1, .int .i64 D.cost.a, .int .i64 D.cost.b, .int .i64 D.cost.c, .int .i64 D.cost.d, .int .i64 D.bud.a, .int .i64 D.bud.b, .int .i64 D.bud.c, .int .i64 D.bud.d, .int .i64 D.floor, .slice Q1 q cq1] 44)
  have z9 := b9.size
  have l9 := lt_of_block x9
  have S1 := Lib.hid (AaS.made (E := D) x9 (bel_c HB.out b9) HB.out.size (o1.below b9) (d1.below b9))
  have HR3 := Lib.hid (bxb X2c b9)
  have hnb : w.heap.size + 1 < w3.heap.size := by omega
  clear HB X1 X2 X1c X2c x9 b9
  go_wp2
  generalize w3.alloc (.cells #[.slice P1 g cg1, .slice A1 n c1, .slice Z1 m cm1, .slice Y1 p cp1, .int .i64 D.cost.a, .int .i64 D.cost.b, .int .i64 D.cost.c, .int .i64 D.cost.d, .int .i64 D.bud.a, .int .i64 D.bud.b, .int .i64 D.bud.c, .int .i64 D.bud.d, .int .i64 D.floor, .slice Q1 q cq1] 44) = wb at *
  obtain ⟨b, hbe⟩ : ∃ b, w3.heap.size = b := ⟨_, rfl⟩
  have HBE := Lib.hid hbe
  rw [hbe] at S1 z9 l9 hnb
  try rw [hbe]
  clear hbe
  have OC : Hid (OwnI wb wb.heap.size wb.heap.size none 0 0 (acL D l 0)) := Lib.hid ⟨Own.nil_, (fun k hk => by cases hk), by omega⟩
  go_loopw [8, 27] (fun cv i wr => ∃ (k : Nat) (C : Option Addr) (cc : Nat) (Q1 : Option Addr) (q1 cq1 : Nat) (E : SvD), k ≤ tn ∧ cv = .slice C k cc ∧ i = .int .i64 k ∧ Hid (E = askN D l k) ∧ Hid (AaS w wb b C wr P1 A1 Z1 Y1 Q1 g cg1 n c1 m cm1 p cp1 q1 cq1 E) ∧ Hid (OwnI wr wb.heap.size wr.heap.size C k cc (acL D l k))) (fun _ i _ => tn - (intOf i).toNat)
  case atStart => exact ⟨0, none, 0, Q1, q, cq1, D, Nat.zero_le _, rfl, rfl, Lib.hid rfl, S1, OC⟩
  case round =>
    clear S1 OC
    obtain ⟨k, C, cc, Q1, q1, cq1, E, hk, rfl, rfl, hE, HS1, OC⟩ := hrel
    have hlk := HS1.out.dtl.len
    have hak := askN_asked_le D l k
    rw [← hE.out] at hak
    have hq9 : q1 ≤ 900020 := by omega
    clear hak
    by_cases hlt : k < tn
    case pos =>
      obtain ⟨ad, rfl, V, mt, d, U, kt, e', u0, u1, u2, u3, hu⟩ := (HLW.out.below HS1.out.bl).at_ hlt
      have bk := below_new wr (.cells #[.int .i64 (tX l k).lv, .slice V mt d, .slice U kt e', .int .i64 (tX l k).sum] 56)
      have XN := Lib.hid (box_new wr #[.int .i64 (tX l k).lv, .slice V mt d, .slice U kt e', .int .i64 (tX l k).sum] 56)
      have S4 := Lib.hid (HS1.out.below bk)
      have OC4 := Lib.hid (OC.out.belT bk)
      have HU := Lib.hid (hu.below bk)
      have hEs : svB E = true := by rw [hE.out]; exact askN_sv hs l k
      clear HS1 OC hu bk
      have n0_ := bxc XN.out 0 _ rfl; have n1_ := bxc XN.out 1 _ rfl; have n2_ := bxc XN.out 2 _ rfl; have n3_ := bxc XN.out 3 _ rfl
      have c0_ := bxc S4.out.xb 0 _ rfl; have c1_ := bxc S4.out.xb 1 _ rfl; have c2_ := bxc S4.out.xb 2 _ rfl; have c3_ := bxc S4.out.xb 3 _ rfl; have c4_ := bxc S4.out.xb 4 _ rfl; have c5_ := bxc S4.out.xb 5 _ rfl; have c6_ := bxc S4.out.xb 6 _ rfl; have c7_ := bxc S4.out.xb 7 _ rfl; have c8_ := bxc S4.out.xb 8 _ rfl; have c9_ := bxc S4.out.xb 9 _ rfl; have c10_ := bxc S4.out.xb 10 _ rfl; have c11_ := bxc S4.out.xb 11 _ rfl; have c12_ := bxc S4.out.xb 12 _ rfl; have c13_ := bxc S4.out.xb 13 _ rfl
      have ln := lt_of_block XN.out
      have lx := lt_of_block S4.out.xb
      go_wp2_with fail
      clear ln lx u0 u1 u2 u3 n0_ n1_ n2_ n3_ XN c0_ c1_ c2_ c3_ c4_ c5_ c6_ c7_ c8_ c9_ c10_ c11_ c12_ c13_
      generalize wr.alloc (.cells #[.int .i64 (tX l k).lv, .slice V mt d, .slice U kt e', .int .i64 (tX l k).sum] 56) = w4 at *
      refine (jAsk_any P1 A1 Z1 Y1 Q1 g cg1 n c1 m cm1 p cp1 q1 cq1 E V U mt d kt e' (tX l k) 0 w4 (sv_ok hEs) (sv_los hEs).1 (sv_los hEs).2 (sv_asks hEs hlk) (S4.out.sv (by omega)).sur HU.out (S4.out.sv (by omega)).plan S4.out.dtl (Nat.zero_le _) (by omega)).mono ?_
      rintro e w5 ⟨Q2, q2, cq2, B2, nb, cb, rfl, dQ2, oB, b5, _, hdis⟩
      have X5 := Lib.hid (S4.out.below b5).xb
      have hz5 := b5.size
      have b6 := below_new w5 (.cells #[.slice P1 g cg1, .slice A1 n c1, .slice Z1 m cm1, .slice Y1 p cp1, .int .i64 E.cost.a, .int .i64 E.cost.b, .int .i64 E.cost.c, .int .i64 E.cost.d, .int .i64 E.bud.a, .int .i64 E.bud.b, .int .i64 E.bud.c, .int .i64 E.bud.d, .int .i64 E.floor, .slice Q2 q2 cq2] 44)
      have b7 := below_new (((((((((((((((w5).setCell ⟨b, 0, none⟩ (.slice P1 g cg1)).setCell ⟨b, 1, none⟩ (.slice A1 n c1)).setCell ⟨b, 2, none⟩ (.slice Z1 m cm1)).setCell ⟨b, 3, none⟩ (.slice Y1 p cp1)).setCell ⟨b, 4, none⟩ (.int .i64 E.cost.a)).setCell ⟨b, 5, none⟩ (.int .i64 E.cost.b)).setCell ⟨b, 6, none⟩ (.int .i64 E.cost.c)).setCell ⟨b, 7, none⟩ (.int .i64 E.cost.d)).setCell ⟨b, 8, none⟩ (.int .i64 E.bud.a)).setCell ⟨b, 9, none⟩ (.int .i64 E.bud.b)).setCell ⟨b, 10, none⟩ (.int .i64 E.bud.c)).setCell ⟨b, 11, none⟩ (.int .i64 E.bud.d)).setCell ⟨b, 12, none⟩ (.int .i64 E.floor)).setCell ⟨b, 13, none⟩ (.slice Q2 q2 cq2)) (.cells #[.slice P1 g cg1, .slice A1 n c1, .slice Z1 m cm1, .slice Y1 p cp1, .int .i64 E.cost.a, .int .i64 E.cost.b, .int .i64 E.cost.c, .int .i64 E.cost.d, .int .i64 E.bud.a, .int .i64 E.bud.b, .int .i64 E.bud.c, .int .i64 E.bud.d, .int .i64 E.floor, .slice Q2 q2 cq2] 44)
      have HZ7 := Lib.hid (show w5.heap.size + 1 = ((((((((((((((((w5).setCell ⟨b, 0, none⟩ (.slice P1 g cg1)).setCell ⟨b, 1, none⟩ (.slice A1 n c1)).setCell ⟨b, 2, none⟩ (.slice Z1 m cm1)).setCell ⟨b, 3, none⟩ (.slice Y1 p cp1)).setCell ⟨b, 4, none⟩ (.int .i64 E.cost.a)).setCell ⟨b, 5, none⟩ (.int .i64 E.cost.b)).setCell ⟨b, 6, none⟩ (.int .i64 E.cost.c)).setCell ⟨b, 7, none⟩ (.int .i64 E.cost.d)).setCell ⟨b, 8, none⟩ (.int .i64 E.bud.a)).setCell ⟨b, 9, none⟩ (.int .i64 E.bud.b)).setCell ⟨b, 10, none⟩ (.int .i64 E.bud.c)).setCell ⟨b, 11, none⟩ (.int .i64 E.bud.d)).setCell ⟨b, 12, none⟩ (.int .i64 E.floor)).setCell ⟨b, 13, none⟩ (.slice Q2 q2 cq2)).alloc (.cells #[.slice P1 g cg1, .slice A1 n c1, .slice Z1 m cm1, .slice Y1 p cp1, .int .i64 E.cost.a, .int .i64 E.cost.b, .int .i64 E.cost.c, .int .i64 E.cost.d, .int .i64 E.bud.a, .int .i64 E.bud.b, .int .i64 E.bud.c, .int .i64 E.bud.d, .int .i64 E.floor, .slice Q2 q2 cq2] 44)).heap.size by simp)
      have S6 := Lib.hid ((S4.out.ask b5 hdis).below b7)
      have XO := Lib.hid (box_new w5 #[.slice P1 g cg1, .slice A1 n c1, .slice Z1 m cm1, .slice Y1 p cp1, .int .i64 E.cost.a, .int .i64 E.cost.b, .int .i64 E.cost.c, .int .i64 E.cost.d, .int .i64 E.bud.a, .int .i64 E.bud.b, .int .i64 E.bud.c, .int .i64 E.bud.d, .int .i64 E.floor, .slice Q2 q2 cq2] 44)
      have OC6 := Lib.hid ((ownI_p14 (y0 := .slice P1 g cg1) (y1 := .slice A1 n c1) (y2 := .slice Z1 m cm1) (y3 := .slice Y1 p cp1) (y4 := .int .i64 E.cost.a) (y5 := .int .i64 E.cost.b) (y6 := .int .i64 E.cost.c) (y7 := .int .i64 E.cost.d) (y8 := .int .i64 E.bud.a) (y9 := .int .i64 E.bud.b) (y10 := .int .i64 E.bud.c) (y11 := .int .i64 E.bud.d) (y12 := .int .i64 E.floor) (y13 := .slice Q2 q2 cq2) (OC4.out.belT b5) X5.out).belT b7)
      have hcE : acK D l k = codeV E E.asked (tX l k) := by unfold acK; rw [hE.out]
      have hbz : b < w5.heap.size := lt_of_block X5.out
      have p0_ := bxc X5.out 0 _ rfl; have p1_ := bxc X5.out 1 _ rfl; have p2_ := bxc X5.out 2 _ rfl; have p3_ := bxc X5.out 3 _ rfl; have p4_ := bxc X5.out 4 _ rfl; have p5_ := bxc X5.out 5 _ rfl; have p6_ := bxc X5.out 6 _ rfl; have p7_ := bxc X5.out 7 _ rfl; have p8_ := bxc X5.out 8 _ rfl; have p9_ := bxc X5.out 9 _ rfl; have p10_ := bxc X5.out 10 _ rfl; have p11_ := bxc X5.out 11 _ rfl; have p12_ := bxc X5.out 12 _ rfl; have p13_ := bxc X5.out 13 _ rfl
      have g0_ := bxf X5.out 0; have g1_ := bxf X5.out 1; have g2_ := bxf X5.out 2; have g3_ := bxf X5.out 3; have g4_ := bxf X5.out 4; have g5_ := bxf X5.out 5; have g6_ := bxf X5.out 6; have g7_ := bxf X5.out 7; have g8_ := bxf X5.out 8; have g9_ := bxf X5.out 9; have g10_ := bxf X5.out 10; have g11_ := bxf X5.out 11; have g12_ := bxf X5.out 12; have g13_ := bxf X5.out 13
      have lx := lt_of_block X5.out
      have i0_ := bxc XO.out 0 _ rfl; have i1_ := bxc XO.out 1 _ rfl; have i2_ := bxc XO.out 2 _ rfl; have i3_ := bxc XO.out 3 _ rfl; have i4_ := bxc XO.out 4 _ rfl; have i5_ := bxc XO.out 5 _ rfl; have i6_ := bxc XO.out 6 _ rfl; have i7_ := bxc XO.out 7 _ rfl; have i8_ := bxc XO.out 8 _ rfl; have i9_ := bxc XO.out 9 _ rfl; have i10_ := bxc XO.out 10 _ rfl; have i11_ := bxc XO.out 11 _ rfl; have i12_ := bxc XO.out 12 _ rfl; have i13_ := bxc XO.out 13 _ rfl
      have lo_ := lt_of_block XO.out
      clear S4 OC4 X5 HU b5 b6 b7 hdis dQ2 oB XO
      go_wp2_with (at_builtin; refine wp_app1 (v := codeV E E.asked (tX l k)) rfl _ _ rfl wb.heap.size C k cc (acL D l k) rfl OC6.out.own _ rfl HZ7.out (by omega) S6.out.sz ?_; intro C2 cc2 w7 own7 grow7 row7)
      have own8 : Own w7 wb.heap.size C2 (k + 1) cc2 (acL D l (k + 1)) := by rw [acL_succ, hcE]; exact own7
      have S7 := Lib.hid (S6.out.app (C' := C2) grow7 (fun j hj => (own8.row_ge j hj).2) row7)
      have OC7 := Lib.hid (OwnI.of_own own8 (by omega))
      clear S6 OC6 own7 own8 grow7 row7 HZ7 lx lo_ hcE p0_ p1_ p2_ p3_ p4_ p5_ p6_ p7_ p8_ p9_ p10_ p11_ p12_ p13_ g0_ g1_ g2_ g3_ g4_ g5_ g6_ g7_ g8_ g9_ g10_ g11_ g12_ g13_ i0_ i1_ i2_ i3_ i4_ i5_ i6_ i7_ i8_ i9_ i10_ i11_ i12_ i13_
      go_wp2
      go_roundw
      case rel => exact ⟨k + 1, C2, cc2, Q2, q2, cq2, askD E (tX l k), by omega, by go_num, by go_num, Lib.hid (by rw [hE.out]; rfl), S7, OC7⟩
      case measure => simp [intOf]; omega
    case neg =>
      obtain rfl : k = tn := by omega
      have XR : Hid (wr.heap[w.heap.size + 1]? = some (.cells #[.slice none 0 0, .slice none 0 0, .slice none 0 0, .slice none 0 0, .int .i64 0, .int .i64 0, .int .i64 0, .int .i64 0, .int .i64 0, .int .i64 0, .int .i64 0, .int .i64 0, .int .i64 0, .slice none 0 0] 44 (0, 0))) := Lib.hid ((HS1.out.fr _ (by first | exact lt_of_block HR3.out | omega) (by omega)).trans HR3.out)
      have p0_ := bxc XR.out 0 _ rfl; have p1_ := bxc XR.out 1 _ rfl; have p2_ := bxc XR.out 2 _ rfl; have p3_ := bxc XR.out 3 _ rfl; have p4_ := bxc XR.out 4 _ rfl; have p5_ := bxc XR.out 5 _ rfl; have p6_ := bxc XR.out 6 _ rfl; have p7_ := bxc XR.out 7 _ rfl; have p8_ := bxc XR.out 8 _ rfl; have p9_ := bxc XR.out 9 _ rfl; have p10_ := bxc XR.out 10 _ rfl; have p11_ := bxc XR.out 11 _ rfl; have p12_ := bxc XR.out 12 _ rfl; have p13_ := bxc XR.out 13 _ rfl
      have g0_ := bxf XR.out 0; have g1_ := bxf XR.out 1; have g2_ := bxf XR.out 2; have g3_ := bxf XR.out 3; have g4_ := bxf XR.out 4; have g5_ := bxf XR.out 5; have g6_ := bxf XR.out 6; have g7_ := bxf XR.out 7; have g8_ := bxf XR.out 8; have g9_ := bxf XR.out 9; have g10_ := bxf XR.out 10; have g11_ := bxf XR.out 11; have g12_ := bxf XR.out 12; have g13_ := bxf XR.out 13
      have i0_ := bxc HS1.out.xb 0 _ rfl; have i1_ := bxc HS1.out.xb 1 _ rfl; have i2_ := bxc HS1.out.xb 2 _ rfl; have i3_ := bxc HS1.out.xb 3 _ rfl; have i4_ := bxc HS1.out.xb 4 _ rfl; have i5_ := bxc HS1.out.xb 5 _ rfl; have i6_ := bxc HS1.out.xb 6 _ rfl; have i7_ := bxc HS1.out.xb 7 _ rfl; have i8_ := bxc HS1.out.xb 8 _ rfl; have i9_ := bxc HS1.out.xb 9 _ rfl; have i10_ := bxc HS1.out.xb 10 _ rfl; have i11_ := bxc HS1.out.xb 11 _ rfl; have i12_ := bxc HS1.out.xb 12 _ rfl; have i13_ := bxc HS1.out.xb 13 _ rfl
      have ly := lt_of_block XR.out
      have lx := lt_of_block HS1.out.xb
      have RX := Lib.hid (fill14n (y0 := .slice P1 g cg1) (y1 := .slice A1 n c1) (y2 := .slice Z1 m cm1) (y3 := .slice Y1 p cp1) (y4 := .int .i64 E.cost.a) (y5 := .int .i64 E.cost.b) (y6 := .int .i64 E.cost.c) (y7 := .int .i64 E.cost.d) (y8 := .int .i64 E.bud.a) (y9 := .int .i64 E.bud.b) (y10 := .int .i64 E.bud.c) (y11 := .int .i64 E.bud.d) (y12 := .int .i64 E.floor) (y13 := .slice Q1 q1 cq1) XR.out)
      have r0_ := bxc RX.out 0 (.slice P1 g cg1) rfl; have r1_ := bxc RX.out 1 (.slice A1 n c1) rfl; have r2_ := bxc RX.out 2 (.slice Z1 m cm1) rfl; have r3_ := bxc RX.out 3 (.slice Y1 p cp1) rfl; have r4_ := bxc RX.out 4 (.int .i64 E.cost.a) rfl; have r5_ := bxc RX.out 5 (.int .i64 E.cost.b) rfl; have r6_ := bxc RX.out 6 (.int .i64 E.cost.c) rfl; have r7_ := bxc RX.out 7 (.int .i64 E.cost.d) rfl; have r8_ := bxc RX.out 8 (.int .i64 E.bud.a) rfl; have r9_ := bxc RX.out 9 (.int .i64 E.bud.b) rfl; have r10_ := bxc RX.out 10 (.int .i64 E.bud.c) rfl; have r11_ := bxc RX.out 11 (.int .i64 E.bud.d) rfl; have r12_ := bxc RX.out 12 (.int .i64 E.floor) rfl; have r13_ := bxc RX.out 13 (.slice Q1 q1 cq1) rfl
      have e1 := fun j (hj : j ≠ w.heap.size + 1) => puts_ne (g := w.heap.size + 1) [(0, .slice P1 g cg1), (1, .slice A1 n c1), (2, .slice Z1 m cm1), (3, .slice Y1 p cp1), (4, .int .i64 E.cost.a), (5, .int .i64 E.cost.b), (6, .int .i64 E.cost.c), (7, .int .i64 E.cost.d), (8, .int .i64 E.bud.a), (9, .int .i64 E.bud.b), (10, .int .i64 E.bud.c), (11, .int .i64 E.bud.d), (12, .int .i64 E.floor), (13, .slice Q1 q1 cq1)] wr hj
      have e2 := puts_size (g := w.heap.size + 1) [(0, .slice P1 g cg1), (1, .slice A1 n c1), (2, .slice Z1 m cm1), (3, .slice Y1 p cp1), (4, .int .i64 E.cost.a), (5, .int .i64 E.cost.b), (6, .int .i64 E.cost.c), (7, .int .i64 E.cost.d), (8, .int .i64 E.bud.a), (9, .int .i64 E.bud.b), (10, .int .i64 E.bud.c), (11, .int .i64 E.bud.d), (12, .int .i64 E.floor), (13, .slice Q1 q1 cq1)] wr
      have FB := puts_below (g := w.heap.size + 1) [(0, .slice P1 g cg1), (1, .slice A1 n c1), (2, .slice Z1 m cm1), (3, .slice Y1 p cp1), (4, .int .i64 E.cost.a), (5, .int .i64 E.cost.b), (6, .int .i64 E.cost.c), (7, .int .i64 E.cost.d), (8, .int .i64 E.bud.a), (9, .int .i64 E.bud.b), (10, .int .i64 E.bud.c), (11, .int .i64 E.bud.d), (12, .int .i64 E.floor), (13, .slice Q1 q1 cq1)] wr HS1.out.bl (by omega)
      have F1 := HS1.out.cso.off XR.out e1 e2
      have F2 := HS1.out.dtl.off XR.out (by decide) (by decide) e1 e2
      have IC := (OC.out.offT XR.out (by decide) e1).intR
      have FIN := Lib.hid (show AaR D l w (.returned (.tuple #[.slice C k cc, .agg #[.slice P1 g cg1, .slice A1 n c1, .slice Z1 m cm1, .slice Y1 p cp1, .int .i64 E.cost.a, .int .i64 E.cost.b, .int .i64 E.cost.c, .int .i64 E.cost.d, .int .i64 E.bud.a, .int .i64 E.bud.b, .int .i64 E.bud.c, .int .i64 E.bud.d, .int .i64 E.floor, .slice Q1 q1 cq1], .bool true])) (puts wr (w.heap.size + 1) [(0, .slice P1 g cg1), (1, .slice A1 n c1), (2, .slice Z1 m cm1), (3, .slice Y1 p cp1), (4, .int .i64 E.cost.a), (5, .int .i64 E.cost.b), (6, .int .i64 E.cost.c), (7, .int .i64 E.cost.d), (8, .int .i64 E.bud.a), (9, .int .i64 E.bud.b), (10, .int .i64 E.bud.c), (11, .int .i64 E.bud.d), (12, .int .i64 E.floor), (13, .slice Q1 q1 cq1)]) from ⟨P1, A1, Z1, Y1, Q1, _, g, cg1, n, c1, m, cm1, p, cp1, q1, cq1, _, _, E, by unfold aaD; rw [if_pos AB, hl0]; exact hE.out, by rw [AB], F1.sv F2 (by omega), by unfold aaC; rw [if_pos AB, hl0]; exact IC, FB⟩)
      clear F1 F2 IC e1 e2 FB RX HS1 OC XR
      go_wp2
      go_region
      go_wp2
      exact bodyPost_ret (v := .tuple #[.slice C k cc, .agg #[.slice P1 g cg1, .slice A1 n c1, .slice Z1 m cm1, .slice Y1 p cp1, .int .i64 E.cost.a, .int .i64 E.cost.b, .int .i64 E.cost.c, .int .i64 E.cost.d, .int .i64 E.bud.a, .int .i64 E.bud.b, .int .i64 E.bud.c, .int .i64 E.bud.d, .int .i64 E.floor, .slice Q1 q1 cq1], .bool true]) (by simp [results, Tryz.results43, go_sem, r0_, r1_, r2_, r3_, r4_, r5_, r6_, r7_, r8_, r9_, r10_, r11_, r12_, r13_]) rfl FIN.out.drew
end
end Go.Proofs.YtfanpbfmnckmnaaGreat
