/- Several small texts in one: DgL, DgM. -/
import Derived.Test.YtfanpbfmnckmnaaGreatYs
import Derived.Deep.DeepCutAuto
namespace Go.Proofs.YtfanpbfmnckmnaaGreat

section
open Go.RowKit

section
variable {w w' : World} {A : Option Addr} {n c lo b : Nat} {ts : List TabD} {cs : Array Value} {T : TypeId}
theorem OwnI.keepB {V : Option Addr} {m cv : Nat} {xs : List Int} (h : OwnI w lo w.heap.size V m cv xs) (hb : w.heap[b]? = some (.cells cs T (0, 0))) (hT : T ≠ 3) (hw : ∀ k, k < w.heap.size → k ≠ b → w'.heap[k]? = w.heap[k]?) (hz : w.heap.size ≤ w'.heap.size) : OwnI w' lo w'.heap.size V m cv xs :=
  ⟨h.own.keep fun g hA hg => hw g hg (fun e => own_ne h.own hb hT (by rw [hA, e]; rfl)), fun k hk => Nat.lt_of_lt_of_le (h.top k hk) hz, h.small⟩
/-- A row of tables is kept where all but one box stays. -/
theorem DTl.keepB (h : DTl w lo A n c ts) (hb : w.heap[b]? = some (.cells cs T (0, 0))) (hT : T ≠ 3) (hne : rowOf A ≠ some b) (hw : ∀ k, k < w.heap.size → k ≠ b → w'.heap[k]? = w.heap[k]?) (hz : w.heap.size ≤ w'.heap.size) : DTl w' lo A n c ts := by
  obtain ⟨ys, ho, h2⟩ := h.cells
  refine ⟨h.len, ys, row_keep ho fun k _ hA hk => hw k hk (fun e => hne (by rw [hA, e])), fun j hj => ?_⟩
  obtain ⟨V, m, cv, U, k, cu, e0, e1, e2, e3, hv, hu⟩ := h2 j hj
  exact ⟨V, m, cv, U, k, cu, e0, e1, e2, e3, hv.keepB hb hT hw hz, hu.keepB hb hT hw hz⟩
/-- A row of tables is kept where another row grows. -/
theorem DTl.far {E : Option Addr} (h : DTl w lo A n c ts) (hg : w.grownBy w' (rowOf E)) (hne : ∀ r, rowOf A = some r → rowOf E ≠ some r) (hv : ∀ {V : Option Addr} {B m cv : Nat} {xs : List Int}, Own w B V m cv xs → ∀ r, rowOf V = some r → rowOf E ≠ some r) : DTl w' lo A n c ts := by
  obtain ⟨ys, ho, h2⟩ := h.cells
  refine ⟨h.len, ys, row_keep ho fun k _ hA hk => hg.block k hk (fun e => hne k hA e.symm), fun j hj => ?_⟩
  obtain ⟨V, m, cv, U, k, cu, e0, e1, e2, e3, h3, h4⟩ := h2 j hj
  exact ⟨V, m, cv, U, k, cu, e0, e1, e2, e3, OwnI.of_own (h3.own.far hg fun q hq => hv h3.own q (by rw [hq]; rfl)) h3.small, OwnI.of_own (h4.own.far hg fun q hq => hv h4.own q (by rw [hq]; rfl)) h4.small⟩
end
theorem puts_new {lo hi g : Nat} {w0 : World} : ∀ (l : List (Nat × Value)) (w : World), Chg lo hi w0 w → w0.heap.size ≤ g → Chg lo hi w0 (puts w g l) := by
  intro l
  induction l with
  | nil => intro w h _; exact h
  | cons p l ih => intro w h hg; exact ih (w.setCell ⟨g, p.1, none⟩ p.2) (h.setNewD (by exact hg) _) hg
/-- A drawn server while it is made: its box at b. -/
structure SvS (w0 w : World) (g L b : Nat) (P A Z : Option Addr) (pn pc n c m cz : Nat) (Y : Option Addr) (p cp : Nat) (ts : List TabD) (Q : Option Addr) (q cq : Nat) (us : List TabD) (x y : LosD) (fl : Int) : Prop where
  cu : Cur w g L
  ch : Chg g (g + 1) w0 w
  pl : DTl w w0.heap.size Y p cp ts
  aq : DTl w w0.heap.size Q q cq us
  ap : ∀ r, rowOf Y = some r → rowOf Q ≠ some r
  bx : w.heap[b]? = some (.cells #[.slice P pn pc, .slice A n c, .slice Z m cz, .slice Y p cp, .int .i64 x.a, .int .i64 x.b, .int .i64 x.c, .int .i64 x.d, .int .i64 y.a, .int .i64 y.b, .int .i64 y.c, .int .i64 y.d, .int .i64 fl, .slice Q q cq] 44 (0, 0))
  ab : w0.heap.size ≤ b ∧ g < w0.heap.size
section
variable {w0 w w' : World} {g L L' b : Nat} {P A Z : Option Addr} {pn pc n c m cz : Nat} {Y : Option Addr} {p cp : Nat} {ts : List TabD} {Q : Option Addr} {q cq : Nat} {us : List TabD} {x y : LosD} {fl : Int}
theorem SvS.chg (h : SvS w0 w g L b P A Z pn pc n c m cz Y p cp ts Q q cq us x y fl) (hc : Cur w' g L') (hx : Chg g (g + 1) w w') : SvS w0 w' g L' b P A Z pn pc n c m cz Y p cp ts Q q cq us x y fl :=
  ⟨hc, h.ch.trans hx, h.pl.chg hx h.ab.2, h.aq.chg hx h.ab.2, h.ap, box_chg h.bx hx (by have := h.ab; omega), h.ab⟩
theorem SvS.below (h : SvS w0 w g L b P A Z pn pc n c m cz Y p cp ts Q q cq us x y fl) (hb : Below w.heap.size w w') : SvS w0 w' g L b P A Z pn pc n c m cz Y p cp ts Q q cq us x y fl :=
  ⟨h.cu.below hb, h.ch.then_ hb, h.pl.below hb, h.aq.below hb, h.ap, bxb h.bx hb, h.ab⟩
theorem SvS.mono (h : SvS w0 w g L b P A Z pn pc n c m cz Y p cp ts Q q cq us x y fl) (hl : L ≤ L') : SvS w0 w g L' b P A Z pn pc n c m cz Y p cp ts Q q cq us x y fl := ⟨h.cu.mono hl, h.ch, h.pl, h.aq, h.ap, h.bx, h.ab⟩
theorem SvS.keepB {k : Nat} {cs : Array Value} {T : TypeId} (h : SvS w0 w g L b P A Z pn pc n c m cz Y p cp ts Q q cq us x y fl) (hb : w.heap[k]? = some (.cells cs T (0, 0))) (hT : T ≠ 3) (hkb : b ≠ k) (hY : rowOf Y ≠ some k) (hQ : rowOf Q ≠ some k) (hw : ∀ j, j < w.heap.size → j ≠ k → w'.heap[j]? = w.heap[j]?) (hz : w.heap.size ≤ w'.heap.size) (hc : Cur w' g L') (hx : Chg g (g + 1) w0 w') : SvS w0 w' g L' b P A Z pn pc n c m cz Y p cp ts Q q cq us x y fl :=
  ⟨hc, hx, h.pl.keepB hb hT hY hw hz, h.aq.keepB hb hT hQ hw hz, h.ap, (hw b (lt_of_block h.bx) hkb).trans h.bx, h.ab⟩
/-- Stores into the server's own box. -/
theorem SvS.put {x2 y2 : LosD} {fl2 : Int} {l : List (Nat × Value)} (h : SvS w0 w g L b P A Z pn pc n c m cz Y p cp ts Q q cq us x y fl) (he : l.foldl (fun c p => c.setIfInBounds p.1 p.2) #[.slice P pn pc, .slice A n c, .slice Z m cz, .slice Y p cp, .int .i64 x.a, .int .i64 x.b, .int .i64 x.c, .int .i64 x.d, .int .i64 y.a, .int .i64 y.b, .int .i64 y.c, .int .i64 y.d, .int .i64 fl, .slice Q q cq] = #[.slice P pn pc, .slice A n c, .slice Z m cz, .slice Y p cp, .int .i64 x2.a, .int .i64 x2.b, .int .i64 x2.c, .int .i64 x2.d, .int .i64 y2.a, .int .i64 y2.b, .int .i64 y2.c, .int .i64 y2.d, .int .i64 fl2, .slice Q q cq]) : SvS w0 (puts w b l) g L b P A Z pn pc n c m cz Y p cp ts Q q cq us x2 y2 fl2 := by
  have hb := h.ab
  have hn := fun k (hk : k ≠ b) => puts_ne (g := b) l w hk
  have hz := puts_size (g := b) l w
  refine ⟨h.cu.keep fun k hk => hn k (by omega), puts_new l w h.ch hb.1, h.pl.off h.bx (by decide) (by decide) hn hz, h.aq.off h.bx (by decide) (by decide) hn hz, h.ap, ?_, hb⟩
  rw [puts_box _ _ _ h.bx, he]
/-- One table more in the plan. -/
theorem SvS.app {Y2 : Option Addr} {cp2 p2 : Nat} {ts2 : List TabD} (h : SvS w0 w g L b P A Z pn pc n c m cz Y p cp ts Q q cq us x y fl) (hg : w.grownBy w' (rowOf Y)) (hn : DTl w' w0.heap.size Y2 p2 cp2 ts2) (hr : rowOf Y2 = rowOf Y ∨ ∃ q, rowOf Y2 = some q ∧ w.heap.size ≤ q) :
    SvS w0 (w'.setCell ⟨b, 3, none⟩ (.slice Y2 p2 cp2)) g L b P A Z pn pc n c m cz Y2 p2 cp2 ts2 Q q cq us x y fl := by
  have hb := h.ab
  have hne := h.pl.ne_box h.bx (by decide)
  have x1 := box_app2 h.bx hg hne
  have hrow := fun r hr => (h.pl.row_ge r hr).1
  have a1 := h.aq.far hg (fun r hr e => h.ap r e hr) (fun hv r hr => h.pl.ne_row hv hr)
  refine ⟨(cur_app h.cu hg (fun k hk => by have := hrow k hk; omega)).far (by show g < b; omega) _, (chg_app h.ch hg hrow).setNewD (by show w0.heap.size ≤ b; omega) _, hn.off x1 (by decide) (by decide) (fun k hk => Below.heap_setCell w' ⟨b, 3, none⟩ _ k hk) (by simp), a1.off x1 (by decide) (by decide) (fun k hk => Below.heap_setCell w' ⟨b, 3, none⟩ _ k hk) (by simp), fun r h1 h2 => ?_, box_set x1 3 _, hb⟩
  rcases hr with e | ⟨q', e, hq⟩
  · rw [e] at h1; exact h.ap r h1 h2
  · rw [e] at h1
    injection h1 with h1
    have := (h.aq.row_ge r h2).2
    omega
end
end

section
open Go.RowKit

theorem far14c {w : World} {b k i : Nat} {v y0 y1 y2 y3 y4 y5 y6 y7 y8 y9 y10 y11 y12 y13 : Value} (h : w.cell? ⟨k, i, none⟩ = some v) (hk : k ≠ b) : (((((((((((((((w).setCell ⟨b, 0, none⟩ y0).setCell ⟨b, 1, none⟩ y1).setCell ⟨b, 2, none⟩ y2).setCell ⟨b, 3, none⟩ y3).setCell ⟨b, 4, none⟩ y4).setCell ⟨b, 5, none⟩ y5).setCell ⟨b, 6, none⟩ y6).setCell ⟨b, 7, none⟩ y7).setCell ⟨b, 8, none⟩ y8).setCell ⟨b, 9, none⟩ y9).setCell ⟨b, 10, none⟩ y10).setCell ⟨b, 11, none⟩ y11).setCell ⟨b, 12, none⟩ y12).setCell ⟨b, 13, none⟩ y13).cell? ⟨k, i, none⟩ = some v := by
  rw [← puts14]
  exact (World.cell?_of_block (puts_ne _ _ hk)).trans h
/-- Behind the making of the server's box. -/
def PlR (w3 : World) (g L : Nat) (P A Z : Option Addr) (pn pc n c m cz : Nat) (v : Value) (wx : World) : Prop := ∃ (b : Nat) (x : LosD) (fl : Int), v = .pointer (some ⟨b, 0, none⟩) ∧ LosOk x ∧ 0 ≤ fl ∧ fl ≤ 3 ∧ SvS w3 wx g L b P A Z pn pc n c m cz none 0 0 [] none 0 0 [] x ⟨0, 0, 0, 0⟩ fl
/-- Behind the server's loss. -/
def PlC (w3 : World) (g L : Nat) (P A Z : Option Addr) (pn pc n c m cz : Nat) (y : LosD) (fl : Int) (v : Value) (wx : World) : Prop := ∃ (b : Nat) (x : LosD), v = .pointer (some ⟨b, 0, none⟩) ∧ LosOk x ∧ SvS w3 wx g L b P A Z pn pc n c m cz none 0 0 [] none 0 0 [] x y fl
theorem frac_in1 {y : Int} (h : y ∈ [(1 : Int), 4, 10, 100]) : fracB y 1 = true := by
  simp only [List.mem_cons, List.not_mem_nil, or_false] at h
  rcases h with rfl | rfl | rfl | rfl <;> decide
theorem frac_in2 {y : Int} (h : y ∈ [(0 : Int), 2, 10]) : fracB y 1 = true := by
  simp only [List.mem_cons, List.not_mem_nil, or_false] at h
  rcases h with rfl | rfl | rfl <;> decide
theorem SurV.mono {w : World} {lo lo' : Nat} {P A Z : Option Addr} {pn pc n c m cz : Nat} {ps : List Int} {vs : List (ByteArray × Int)} (h : SurV w lo P A Z pn pc n c m cz ps vs) (hl : lo' ≤ lo) : SurV w lo' P A Z pn pc n c m cz ps vs :=
  ⟨h.g, ⟨h.p.own.mono hl, h.p.top, h.p.small⟩, h.v.mono hl, h.s, h.d.mono hl, h.hp, h.hn, h.hm⟩
/-- A drawn server without queries. -/
def DPl (g L : Nat) (w : World) (e : Ending) (w' : World) : Prop := ∃ (P A Z : Option Addr) (pn pc n c m cz : Nat) (ps : List Int) (vs : List (ByteArray × Int)) (Y : Option Addr) (p cp : Nat) (ts : List TabD) (x y : LosD) (fl : Int), e = .returned (.agg #[.slice P pn pc, .slice A n c, .slice Z m cz, .slice Y p cp, .int .i64 x.a, .int .i64 x.b, .int .i64 x.c, .int .i64 x.d, .int .i64 y.a, .int .i64 y.b, .int .i64 y.c, .int .i64 y.d, .int .i64 fl, .slice none 0 0]) ∧ SurV w' w.heap.size P A Z pn pc n c m cz ps vs ∧ DTl w' w.heap.size Y p cp ts ∧ p ≤ 8 ∧ LosOk x ∧ LosOk y ∧ 0 ≤ fl ∧ fl ≤ 3 ∧ Cur w' g L ∧ Chg g (g + 1) w w'
section
variable {w3 w : World} {g L b : Nat} {P A Z : Option Addr} {pn pc n c m cz : Nat} {x : LosD} {fl : Int}
theorem PlR.new (hc : Cur w g L) (hx : Chg g (g + 1) w3 w) (hg : g < w3.heap.size) (ho : LosOk x) (h0 : 0 ≤ fl) (h1 : fl ≤ 3) : PlR w3 g L P A Z pn pc n c m cz (.pointer (some ⟨w.heap.size, 0, none⟩)) (w.alloc (.cells #[.slice P pn pc, .slice A n c, .slice Z m cz, .slice none 0 0, .int .i64 x.a, .int .i64 x.b, .int .i64 x.c, .int .i64 x.d, .int .i64 0, .int .i64 0, .int .i64 0, .int .i64 0, .int .i64 fl, .slice none 0 0] 44)) :=
  ⟨w.heap.size, x, fl, rfl, ho, h0, h1, hc.below (below_new _ _), hx.then_ (below_new _ _), DTl.nil_, DTl.nil_, (fun r hr _ => by cases hr), box_new _ _ _, hx.size, hg⟩
theorem PlR.fill (hc : Cur w g L) (hx : Chg g (g + 1) w3 w) (hg : g < w3.heap.size) (ho : LosOk x) (h0 : 0 ≤ fl) (h1 : fl ≤ 3) (hb : w.heap[b]? = some (.cells #[.slice none 0 0, .slice none 0 0, .slice none 0 0, .slice none 0 0, .int .i64 0, .int .i64 0, .int .i64 0, .int .i64 0, .int .i64 0, .int .i64 0, .int .i64 0, .int .i64 0, .int .i64 0, .slice none 0 0] 44 (0, 0))) (hb0 : w3.heap.size ≤ b) : PlR w3 g L P A Z pn pc n c m cz (.pointer (some ⟨b, 0, none⟩)) (((((((((((((((w).setCell ⟨b, 0, none⟩ (.slice P pn pc)).setCell ⟨b, 1, none⟩ (.slice A n c)).setCell ⟨b, 2, none⟩ (.slice Z m cz)).setCell ⟨b, 3, none⟩ (.slice none 0 0)).setCell ⟨b, 4, none⟩ (.int .i64 x.a)).setCell ⟨b, 5, none⟩ (.int .i64 x.b)).setCell ⟨b, 6, none⟩ (.int .i64 x.c)).setCell ⟨b, 7, none⟩ (.int .i64 x.d)).setCell ⟨b, 8, none⟩ (.int .i64 0)).setCell ⟨b, 9, none⟩ (.int .i64 0)).setCell ⟨b, 10, none⟩ (.int .i64 0)).setCell ⟨b, 11, none⟩ (.int .i64 0)).setCell ⟨b, 12, none⟩ (.int .i64 fl)).setCell ⟨b, 13, none⟩ (.slice none 0 0)) := by
  rw [← puts14]
  exact ⟨b, x, fl, rfl, ho, h0, h1, hc.keep fun k hk => puts_ne _ _ (by omega), puts_new _ _ hx hb0, DTl.nil_, DTl.nil_, (fun r hr _ => by cases hr), fill14 hb, hb0, hg⟩
end

set_option maxRecDepth 100000 in
set_option maxHeartbeats 4000000 in
theorem planned_any (g L : Nat) (w : World) (h : Cur w g L) (hL : L ≤ 100000) :
    Calls Tryz.prog 153 #[.pointer (some ⟨g, 0, none⟩)] w (DPl g (L + 900) w) := by
  obtain ⟨i0, hi, hz0, hz1, hz2⟩ := info_parts Tryz.infoTable
  have hlt := h.lt
  have b0 := below_new w (.cells #[.slice none 0 0, .slice none 0 0, .slice none 0 0, .slice none 0 0, .int .i64 0, .int .i64 0, .int .i64 0, .int .i64 0, .int .i64 0, .int .i64 0, .int .i64 0, .int .i64 0, .int .i64 0, .slice none 0 0] 44)
  have xr := box_new w #[.slice none 0 0, .slice none 0 0, .slice none 0 0, .slice none 0 0, .int .i64 0, .int .i64 0, .int .i64 0, .int .i64 0, .int .i64 0, .int .i64 0, .int .i64 0, .int .i64 0, .int .i64 0, .slice none 0 0] 44
  have hc0 := h.below b0
  have hG0 : Chg g (g + 1) w (w.alloc (.cells #[.slice none 0 0, .slice none 0 0, .slice none 0 0, .slice none 0 0, .int .i64 0, .int .i64 0, .int .i64 0, .int .i64 0, .int .i64 0, .int .i64 0, .int .i64 0, .int .i64 0, .int .i64 0, .slice none 0 0] 44)) := Chg.of_below b0
  have z0 : w.heap.size < (w.alloc (.cells #[.slice none 0 0, .slice none 0 0, .slice none 0 0, .slice none 0 0, .int .i64 0, .int .i64 0, .int .i64 0, .int .i64 0, .int .i64 0, .int .i64 0, .int .i64 0, .int .i64 0, .int .i64 0, .slice none 0 0] 44)).heap.size := by simp
  clear h b0
  go_enter Tryz.func153, Tryz.ntmps153
  go_wp2_with fail
  generalize w.alloc (.cells #[.slice none 0 0, .slice none 0 0, .slice none 0 0, .slice none 0 0, .int .i64 0, .int .i64 0, .int .i64 0, .int .i64 0, .int .i64 0, .int .i64 0, .int .i64 0, .int .i64 0, .int .i64 0, .slice none 0 0] 44) = w1 at *
  refine (survey_any g _ _ hc0 (by omega)).mono ?_
  rintro e w2 ⟨P, A, Z, pn, pc, n, c, m, cz, ps, vs, rfl, hSV, hc2, hg2⟩
  have hG2 := hG0.trans hg2
  replace xr := box_chg xr hg2 (by omega)
  have z2 := hg2.size
  have b3 := below_new w2 (.cells #[.slice P pn pc] 36)
  have x3 := box_new w2 #[.slice P pn pc] 36
  replace xr := bxb xr b3
  have hc3 := hc2.below b3
  have hG3 := Lib.hid (hG2.then_ b3)
  have SV := Lib.hid (hSV.below b3)
  have lz3 : w2.heap.size < (w2.alloc (.cells #[.slice P pn pc] 36)).heap.size := by simp
  have z3 := b3.size
  have Xr := Lib.hid xr
  have Xd := Lib.hid x3
  clear hc0 hG0 hg2 hSV hc2 hG2 b3 xr x3
  go_wp2_with fail
  generalize w2.alloc (.cells #[.slice P pn pc] 36) = w3 at *
  have hg3 : g < w3.heap.size := by omega
  have d0 := bxc Xd.out 0 (.slice P pn pc) rfl
  have hc3d : Cur w3.drew g (L + 400) := hc3
  have E0 : w3.drew.cell? ⟨w2.heap.size, 0, none⟩ = some (.slice P pn pc) := d0
  have BD : Chg g (g + 1) w3 w3.drew := Chg.of_below (Below.refl _ _).drew
  have hneA : w2.heap.size ≠ w3.heap.size := by omega
  go_cut [6] (fun v6 wx => PlR w3 g (L + 410) P A Z pn pc n c m cz v6 wx)
  case first =>
    go_region_held3 (fun w' => w'.cell? ⟨w2.heap.size, 0, none⟩ = some (.slice P pn pc)) (first | with_reducible exact d6 | with_reducible exact d5 | with_reducible exact E0 | with_reducible exact far14c d6 hneA | with_reducible exact far14c d6 hneB | go_keep) ((first | (go_at_call 187; refine (lossD_any g _ _ (by first | exact hc3d | exact hc3d.below (below_new _ _)) (by omega)).mono ?_; rintro e w5 ⟨x, rfl, hxo, hc5, hg5⟩; have G5 : Chg g (g + 1) w3 w5 := (by first | exact BD.trans hg5 | exact (BD.then_ (below_new _ _)).trans hg5); have z5 := G5.size; have hneB : w2.heap.size ≠ w5.heap.size := (by omega); have d5 := bxc (box_chg Xd.out G5 (by omega)) 0 (.slice P pn pc) rfl; (first | (have K5 : w5.heap[w3.heap.size]? = some (.cells #[.slice none 0 0, .slice none 0 0, .slice none 0 0, .slice none 0 0, .int .i64 0, .int .i64 0, .int .i64 0, .int .i64 0, .int .i64 0, .int .i64 0, .int .i64 0, .int .i64 0, .int .i64 0, .slice none 0 0] 44 (0, 0)) := (box_chg (box_new w3.drew _ _) hg5 (by omega))) | skip); clear hg5) | (go_at_call 85; refine (pick_any g _ 4 _ (by first | exact hc5 | exact hc5.below (below_new _ _)) (by omega) (by omega)).mono ?_; rintro e w6 ⟨fl, rfl, hf0, hf1, hc6, hg6⟩; replace hf1 : fl ≤ 3 := (by simpa using hf1); have G6 : Chg g (g + 1) w3 w6 := (by first | exact G5.trans hg6 | exact (G5.then_ (below_new _ _)).trans hg6); have d6 := bxc (box_chg Xd.out G6 (by omega)) 0 (.slice P pn pc) rfl; (first | (have K6 : w6.heap[w3.heap.size]? = some (.cells #[.slice none 0 0, .slice none 0 0, .slice none 0 0, .slice none 0 0, .int .i64 0, .int .i64 0, .int .i64 0, .int .i64 0, .int .i64 0, .int .i64 0, .int .i64 0, .int .i64 0, .int .i64 0, .slice none 0 0] 44 (0, 0)) := (box_chg K5 hg6 (by omega))) | (have K6 : w6.heap[w5.heap.size]? = some (.cells #[.slice none 0 0, .slice none 0 0, .slice none 0 0, .slice none 0 0, .int .i64 0, .int .i64 0, .int .i64 0, .int .i64 0, .int .i64 0, .int .i64 0, .int .i64 0, .int .i64 0, .int .i64 0, .slice none 0 0] 44 (0, 0)) := (box_chg (box_new w5 _ _) hg6 (by omega))) | skip); (first | (have lK := lt_of_block K6; have k0 := bxc K6 0 _ rfl; have f0 := bxf K6 0; have k1 := bxc K6 1 _ rfl; have f1 := bxf K6 1; have k2 := bxc K6 2 _ rfl; have f2 := bxf K6 2; have k3 := bxc K6 3 _ rfl; have f3 := bxf K6 3; have k4 := bxc K6 4 _ rfl; have f4 := bxf K6 4; have k5 := bxc K6 5 _ rfl; have f5 := bxf K6 5; have k6 := bxc K6 6 _ rfl; have f6 := bxf K6 6; have k7 := bxc K6 7 _ rfl; have f7 := bxf K6 7; have k8 := bxc K6 8 _ rfl; have f8 := bxf K6 8; have k9 := bxc K6 9 _ rfl; have f9 := bxf K6 9; have k10 := bxc K6 10 _ rfl; have f10 := bxf K6 10; have k11 := bxc K6 11 _ rfl; have f11 := bxf K6 11; have k12 := bxc K6 12 _ rfl; have f12 := bxf K6 12; have k13 := bxc K6 13 _ rfl; have f13 := bxf K6 13) | skip); clear hg6)))
    all_goals (go_wp2_with fail; go_meet)
    all_goals (have hc6' := hc6.mono (show L + 400 + 8 + 2 ≤ L + 410 by omega); have z6 := G6.size)
    all_goals (first | with_reducible exact PlR.new hc6' G6 hg3 hxo hf0 hf1 | with_reducible exact PlR.fill hc6' G6 hg3 hxo hf0 hf1 K6 (Nat.le_refl _) | with_reducible exact PlR.fill hc6' G6 hg3 hxo hf0 hf1 K6 z5)
  case rest =>
    obtain ⟨b, x, fl, rfl, hxo, hf0, hf1, hS⟩ := hcut
    clear hc3 hc3d E0 d0 BD
    have b4 := below_new wc (.cells #[.int .i64 1, .int .i64 4, .int .i64 10, .int .i64 100] 3)
    have S4 := Lib.hid (hS.below b4)
    have hc4 := S4.out.cu
    have o4 := own_lit [1, 4, 10, 100] (box_new wc _ _) (by decide)
    have z4 : w3.heap.size ≤ wc.heap.size := hS.ch.size
    clear hS b4
    go_wp2_with fail
    change OwnI (wc.alloc (.cells #[.int .i64 1, .int .i64 4, .int .i64 10, .int .i64 100] 3)) _ _ _ _ _ _ at o4
    generalize wc.alloc (.cells #[.int .i64 1, .int .i64 4, .int .i64 10, .int .i64 100] 3) = w4 at *
    refine (amongM_any g _ _ _ _ _ _ [1, 4, 10, 100] _ hc4 (by omega) o4 (by omega) (by decide) (by decide)).mono ?_
    rintro e w5 ⟨y1, rfl, hy1, hc5, hg5⟩
    have S5 := Lib.hid (S4.out.chg hc5 hg5)
    clear S4 hc4 o4 hc5 hg5
    go_wp2_with fail
    refine (fInt_any y1 _).mono ?_
    rintro e w6 ⟨rfl, b6⟩
    have S6 := Lib.hid (S5.out.below b6)
    clear S5 b6
    have b7 := below_new w6 (.cells #[.int .i64 0, .int .i64 2, .int .i64 10] 3)
    have S7 := Lib.hid (S6.out.below b7)
    have hc7 := S7.out.cu
    have o7 := own_lit [0, 2, 10] (box_new w6 _ _) (by decide)
    have z7 : w3.heap.size ≤ w6.heap.size := S6.out.ch.size
    clear S6 b7
    go_wp2_with fail
    change OwnI (w6.alloc (.cells #[.int .i64 0, .int .i64 2, .int .i64 10] 3)) _ _ _ _ _ _ at o7
    generalize w6.alloc (.cells #[.int .i64 0, .int .i64 2, .int .i64 10] 3) = w7 at *
    refine (amongM_any g _ _ _ _ _ _ [0, 2, 10] _ hc7 (by omega) o7 (by omega) (by decide) (by decide)).mono ?_
    rintro e w8 ⟨y2, rfl, hy2, hc8, hg8⟩
    have S8 := Lib.hid (S7.out.chg hc8 hg8)
    clear S7 hc7 o7 hc8 hg8
    go_wp2_with fail
    refine (fInt_any y2 _).mono ?_
    rintro e w9 ⟨rfl, b9⟩
    have S9 := Lib.hid (S8.out.below b9)
    clear S8 b9
    have hyo : Hid (LosOk ⟨y1, 1, y2, 1⟩) := Lib.hid ⟨frac_in1 hy1, frac_in2 hy2⟩
    have S10 := Lib.hid (show SvS w3 ((((w9.setCell ⟨b, 8, none⟩ (.int .i64 y1)).setCell ⟨b, 9, none⟩ (.int .i64 1)).setCell ⟨b, 10, none⟩ (.int .i64 y2)).setCell ⟨b, 11, none⟩ (.int .i64 1)) g _ b P A Z pn pc n c m cz none 0 0 [] none 0 0 [] x ⟨y1, 1, y2, 1⟩ fl from S9.out.put (l := [(8, .int .i64 y1), (9, .int .i64 1), (10, .int .i64 y2), (11, .int .i64 1)]) rfl)
    have l9 := lt_of_block S9.out.bx
    have k8 := bxc S9.out.bx 8 _ rfl
    have f8 := bxf S9.out.bx 8
    have k9 := bxc S9.out.bx 9 _ rfl
    have f9 := bxf S9.out.bx 9
    have k10 := bxc S9.out.bx 10 _ rfl
    have f10 := bxf S9.out.bx 10
    have k11 := bxc S9.out.bx 11 _ rfl
    have f11 := bxf S9.out.bx 11
    have hc10 := S10.out.cu
    clear S9 hy1 hy2
    go_wp2_with fail
    generalize ((((w9.setCell ⟨b, 8, none⟩ (.int .i64 y1)).setCell ⟨b, 9, none⟩ (.int .i64 1)).setCell ⟨b, 10, none⟩ (.int .i64 y2)).setCell ⟨b, 11, none⟩ (.int .i64 1)) = w10 at *
    refine (one_any g _ _ _ hc10 (by omega) (by omega)).mono ?_
    rintro e w11 ⟨bb, rfl, hc11, hg11⟩
    have S11 := Lib.hid (S10.out.chg hc11 hg11)
    clear S10 hc10 hc11 hg11 l9 k8 f8 k9 f9 k10 f10 k11 f11
    go_upto_if 34 with (fail)
    go_cut [6] (fun v6 wx => PlC w3 g (L + 420) P A Z pn pc n c m cz ⟨y1, 1, y2, 1⟩ fl v6 wx)
    case first =>
      cases bb
      · go_wp2_with fail
        go_meet
        exact ⟨b, x, rfl, hxo, S11.out.mono (by omega)⟩
      · go_wp2_with fail
        refine (pNone_any _).mono ?_
        rintro e w12 ⟨rfl, b12⟩
        have S12 := Lib.hid (S11.out.below b12)
        have S13 := Lib.hid (show SvS w3 ((((w12.setCell ⟨b, 4, none⟩ (.int .i64 1)).setCell ⟨b, 5, none⟩ (.int .i64 1)).setCell ⟨b, 6, none⟩ (.int .i64 0)).setCell ⟨b, 7, none⟩ (.int .i64 1)) g _ b P A Z pn pc n c m cz none 0 0 [] none 0 0 [] los1 ⟨y1, 1, y2, 1⟩ fl from S12.out.put (l := [(4, .int .i64 1), (5, .int .i64 1), (6, .int .i64 0), (7, .int .i64 1)]) rfl)
        have l12 := lt_of_block S12.out.bx
        have k4 := bxc S12.out.bx 4 _ rfl
        have f4 := bxf S12.out.bx 4
        have k5 := bxc S12.out.bx 5 _ rfl
        have f5 := bxf S12.out.bx 5
        have k6 := bxc S12.out.bx 6 _ rfl
        have f6 := bxf S12.out.bx 6
        have k7 := bxc S12.out.bx 7 _ rfl
        have f7 := bxf S12.out.bx 7
        clear S12 S11 b12
        go_wp2_with fail
        go_meet
        exact ⟨b, los1, rfl, los1_ok, S13.out.mono (by omega)⟩
    case rest =>
      obtain ⟨b2, x2, rfl, hxo2, hS2⟩ := hcut
      have hg1 : g < w1.heap.size := by omega
      go_wp2_with fail
      refine (pick_any g _ 5 _ hS2.cu (by omega) (by omega)).mono ?_
      rintro e w14 ⟨v, rfl, v0, v1, hc14, hg14⟩
      replace v1 : v ≤ 4 := by simpa using v1
      obtain ⟨kk, rfl⟩ := Int.eq_ofNat_of_zero_le v0
      have S14 := hS2.chg hc14 hg14
      have hk4 : kk ≤ 4 := by omega
      clear hS2 hc14 hg14 v0 v1
      go_wp2_with fail
      go_loopw [7] (fun i wr => ∃ (k p : Nat) (Y : Option Addr) (cp : Nat) (ts : List TabD), i = .int .i64 k ∧ k ≤ 4 ∧ p + 2 * k ≤ 8 ∧ SvS w3 wr g (L + 430 + 100 * (4 - k)) b2 P A Z pn pc n c m cz Y p cp ts none 0 0 [] x2 ⟨y1, 1, y2, 1⟩ fl) (fun i _ => (intOf i).toNat)
      case atStart => exact ⟨kk, 0, none, 0, [], rfl, hk4, by omega, S14.mono (by omega)⟩
      case round =>
        clear S14 hk4
        obtain ⟨k, p, Y, cp, ts, rfl, hk, hpk, hS⟩ := hrel
        obtain ⟨wo, rfl⟩ : ∃ wo : World, wo = wr := ⟨_, rfl⟩
        have SVo := Lib.hid (SV.out.chg hS.ch hg1)
        have zo := hS.ch.size
        by_cases h0 : 0 < k
        · have hd : decide ((0 : Int) < (k : Int)) = true := by simpa using h0
          have hc := hS.cu
          have hn3 := SVo.out.hn
          have hp11 := SVo.out.hp
          have HS := Lib.hid hS
          have q0 := bxc (box_chg Xd.out hS.ch (by omega)) 0 (.slice P pn pc) rfl
          have hPo := SVo.out.p
          have hVo := SVo.out.v
          have hSo := SVo.out.s
          clear hS
          go_wp2_with fail
          refine (table_any g _ w1.heap.size w1.heap.size _ n c pn pc P A ps vs _ hc (by omega) hPo hg1 hVo hg1 hSo (by omega) (by omega)).mono ?_
          rintro e w5 ⟨lv, V, mv, cv, xs, U, cu, us, sm, rfl, hmv, hap, oV, oU, hc5, hg5⟩
          have S5 := Lib.hid (HS.out.chg hc5 hg5)
          have z5 := hg5.size
          have b6 := below_new w5 (.cells #[.int .i64 lv, .slice V mv cv, .slice U n cu, .int .i64 sm] 56)
          have S6 := Lib.hid (S5.out.below b6)
          have Xt6 := Lib.hid (box_new w5 #[.int .i64 lv, .slice V mv cv, .slice U n cu, .int .i64 sm] 56)
          have z6 : w5.heap.size < (w5.alloc (.cells #[.int .i64 lv, .slice V mv cv, .slice U n cu, .int .i64 sm] 56)).heap.size := by simp
          have hYb : rowOf Y ≠ some w5.heap.size := fun e => by have := (S5.out.pl.row_ge _ e).2; omega
          have OV6 := Lib.hid ((oV.fit (show w3.heap.size ≤ wo.heap.size by omega)).belT b6)
          have OU6 := Lib.hid ((oU.fit (show w3.heap.size ≤ wo.heap.size by omega)).belT b6)
          clear hc hPo hVo hSo q0 HS SVo hc5 hg5 b6 oV oU S5 hap
          have k3 := bxc S6.out.bx 3 _ rfl
          have lt6 := lt_of_block Xt6.out
          have ct0 := bxc Xt6.out 0 _ rfl
          have ct1 := bxc Xt6.out 1 _ rfl
          have ct2 := bxc Xt6.out 2 _ rfl
          have ct3 := bxc Xt6.out 3 _ rfl
          go_wp2_with fail
          generalize w5.alloc (.cells #[.int .i64 lv, .slice V mv cv, .slice U n cu, .int .i64 sm] 56) = w6 at *
          refine (jFind_any Y V U p cp mv cv n cu ts (⟨lv, xs, us, sm⟩ : TabD) _ (S6.out.pl.tabs (by omega)) (by exact ⟨OV6.out.intR, OU6.out.intR⟩)).mono ?_
          rintro e w7 ⟨rfl, b7⟩
          obtain ⟨f, hf⟩ : ∃ f, Hid (fndT ts (⟨lv, xs, us, sm⟩ : TabD) = f) := ⟨_, Lib.hid rfl⟩
          rw [hf.out]
          have S7 := Lib.hid (S6.out.below b7)
          have Xt7 := Lib.hid (bxb Xt6.out b7)
          have OV7 := Lib.hid (OV6.out.belT b7)
          have OU7 := Lib.hid (OU6.out.belT b7)
          have z7 := b7.size
          clear S6 Xt6 OV6 OU6 b7 k3 lt6 ct0 ct1 ct2 ct3
          by_cases hf0 : f < 0
          · have hdf : decide (f < 0) = true := by simpa using hf0
            clear hf0
            have k3 := bxc S7.out.bx 3 _ rfl
            have lt7 := lt_of_block Xt7.out
            have ct0 := bxc Xt7.out 0 _ rfl
            have ct1 := bxc Xt7.out 1 _ rfl
            have ct2 := bxc Xt7.out 2 _ rfl
            have ct3 := bxc Xt7.out 3 _ rfl
            obtain ⟨ys7, ho7⟩ := S7.out.pl.rows
            have hw7 : w3.heap.size ≤ w7.heap.size := by omega
            go_wp2_with (at_builtin; refine wp_appG (cs := #[.int .i64 lv, .slice V mv cv, .slice U n cu, .int .i64 sm]) rfl _ _ rfl Tryz.underlying39 hi hz0 hz1 hz2 rfl (by omega) (by omega) rfl (by simp [Value.oneCell']) w3.heap.size Y p cp ys7 rfl ho7 _ rfl (by simp) (by omega) (by omega) ?_; intro Y2 cp2 w8 own8 grow8 hr8; have D8 := Lib.hid (DTl.snoc (t := (⟨lv, xs, us, sm⟩ : TabD)) S7.out.pl ho7 OV7.out OU7.out grow8 own8); have S9 := Lib.hid (S7.out.app grow8 D8.out (hr8.imp id fun e => ⟨_, e, by omega⟩)); have Xt8 := box_app2 Xt7.out grow8 hYb; have Xb8 := box_app2 S7.out.bx grow8 (S7.out.pl.ne_box S7.out.bx (by decide)); have q3 := bxc Xb8 3 _ rfl; have qf3 := bxf Xb8 3; have hbt : w5.heap.size ≠ b2 := (by rintro rfl; have h1 := S7.out.bx; rw [Xt7.out] at h1; cases h1); have Xt9 := Lib.hid (box_off (p := ⟨b2, 3, none⟩) Xt8 (by exact hbt) (.slice Y2 (p + 1) cp2)); have hYb2 : rowOf Y2 ≠ some w5.heap.size := hr8.elim (fun e => (by rw [e]; exact hYb)) (fun e => (by rw [e]; intro h; injection h; omega)); have OV9 := Lib.hid (show OwnI (w8.setCell ⟨b2, 3, none⟩ (.slice Y2 (p + 1) cp2)) w3.heap.size (w8.setCell ⟨b2, 3, none⟩ (.slice Y2 (p + 1) cp2)).heap.size V mv cv xs from (OwnI.of_own (OV7.out.own.far grow8 fun q hq => S7.out.pl.ne_row OV7.out.own (by rw [hq]; rfl)) OV7.out.small).off Xb8 (by decide) (fun k hk => Below.heap_setCell w8 ⟨b2, 3, none⟩ _ k hk) (by simp)); have OU9 := Lib.hid (show OwnI (w8.setCell ⟨b2, 3, none⟩ (.slice Y2 (p + 1) cp2)) w3.heap.size (w8.setCell ⟨b2, 3, none⟩ (.slice Y2 (p + 1) cp2)).heap.size U n cu us from (OwnI.of_own (OU7.out.own.far grow8 fun q hq => S7.out.pl.ne_row OU7.out.own (by rw [hq]; rfl)) OU7.out.small).off Xb8 (by decide) (fun k hk => Below.heap_setCell w8 ⟨b2, 3, none⟩ _ k hk) (by simp)); have hz8 := grow8.size; have hz9 : (w8.setCell ⟨b2, 3, none⟩ (.slice Y2 (p + 1) cp2)).heap.size = w8.heap.size := (by simp); have lt9 := lt_of_block Xt9.out; have ct9 := bxc Xt8 0 _ rfl; have ct10 := bxc Xt8 1 _ rfl; have ct11 := bxc Xt8 2 _ rfl; have ct12 := bxc Xt8 3 _ rfl)
            refine (jTable_any V U mv cv n cu (⟨lv, xs, us, sm⟩ : TabD) _ (by exact ⟨OV9.out.intR, OU9.out.intR⟩) (by omega) (by omega)).mono ?_
            rintro e w10 ⟨V', cv', U', cu', rfl, oV', oU', hap', b10⟩
            generalize (w8.setCell ⟨b2, 3, none⟩ (.slice Y2 (p + 1) cp2)) = w9 at *
            clear own8 grow8 hr8 D8 S7 Xt7 OV7 OU7 ho7 Xt8 Xb8 q3 qf3 hYb OV9 OU9 k3 lt7 ct0 ct1 ct2 ct3 ct9 ct10 ct11 ct12 lt9
            obtain ⟨gu, rfl, hgu, hgl⟩ := oU'.own.head (by omega)
            obtain ⟨gu', hu', _, _, u0, u1⟩ := oU'.own.at_ (k := 0) (by omega)
            obtain rfl : gu' = gu := by injection hu' with hu'; injection hu' with hu'; exact hu'.symm
            clear hu'
            have lt9 := lt_of_block Xt9.out
            have hgb : gu' ≠ w5.heap.size := by omega
            have hbg : w5.heap.size ≠ gu' := by omega
            have hgb2 : gu' ≠ b2 := by have := lt_of_block S9.out.bx; omega
            have Xt10 := Lib.hid (bxb Xt9.out b10)
            have z10 := b10.size
            have T13 := box_set (box_set (box_set (box_set Xt10.out 0 (.int .i64 lv)) 1 (.slice V' mv cv')) 2 (.slice (some ⟨gu', 0, none⟩) n cu')) 3 (.int .i64 sm)
            have Xt13 := Lib.hid (show (((((w10.setCell ⟨w5.heap.size, 0, none⟩ (.int .i64 lv)).setCell ⟨w5.heap.size, 1, none⟩ (.slice V' mv cv')).setCell ⟨w5.heap.size, 2, none⟩ (.slice (some ⟨gu', 0, none⟩) n cu')).setCell ⟨w5.heap.size, 3, none⟩ (.int .i64 sm)).setCell ⟨gu', 0, none⟩ (.int .i64 1)).heap[w5.heap.size]? = some (.cells #[.int .i64 lv, .slice V' mv cv', .slice (some ⟨gu', 0, none⟩) n cu', .int .i64 sm] 56 (0, 0)) from box_off (p := ⟨gu', 0, none⟩) T13 (by exact hbg) (.int .i64 1))
            have hke : ∀ j, j < w9.heap.size → j ≠ w5.heap.size → (((((w10.setCell ⟨w5.heap.size, 0, none⟩ (.int .i64 lv)).setCell ⟨w5.heap.size, 1, none⟩ (.slice V' mv cv')).setCell ⟨w5.heap.size, 2, none⟩ (.slice (some ⟨gu', 0, none⟩) n cu')).setCell ⟨w5.heap.size, 3, none⟩ (.int .i64 sm)).setCell ⟨gu', 0, none⟩ (.int .i64 1)).heap[j]? = w9.heap[j]? := fun j hj hne => by
              rw [Below.heap_setCell _ ⟨gu', 0, none⟩ _ j (by show j ≠ gu'; omega), Below.heap_setCell _ ⟨w5.heap.size, 3, none⟩ _ j hne, Below.heap_setCell _ ⟨w5.heap.size, 2, none⟩ _ j hne, Below.heap_setCell _ ⟨w5.heap.size, 1, none⟩ _ j hne, Below.heap_setCell _ ⟨w5.heap.size, 0, none⟩ _ j hne]
              exact b10.block j hj
            have hsz : (((((w10.setCell ⟨w5.heap.size, 0, none⟩ (.int .i64 lv)).setCell ⟨w5.heap.size, 1, none⟩ (.slice V' mv cv')).setCell ⟨w5.heap.size, 2, none⟩ (.slice (some ⟨gu', 0, none⟩) n cu')).setCell ⟨w5.heap.size, 3, none⟩ (.int .i64 sm)).setCell ⟨gu', 0, none⟩ (.int .i64 1)).heap.size = w10.heap.size := by simp
            have hc13 : Cur (((((w10.setCell ⟨w5.heap.size, 0, none⟩ (.int .i64 lv)).setCell ⟨w5.heap.size, 1, none⟩ (.slice V' mv cv')).setCell ⟨w5.heap.size, 2, none⟩ (.slice (some ⟨gu', 0, none⟩) n cu')).setCell ⟨w5.heap.size, 3, none⟩ (.int .i64 sm)).setCell ⟨gu', 0, none⟩ (.int .i64 1)) g _ := ((((((S9.out.cu.below b10).far (p := ⟨w5.heap.size, 0, none⟩) (by show g < w5.heap.size; omega) _).far (p := ⟨w5.heap.size, 1, none⟩) (by show g < w5.heap.size; omega) _).far (p := ⟨w5.heap.size, 2, none⟩) (by show g < w5.heap.size; omega) _).far (p := ⟨w5.heap.size, 3, none⟩) (by show g < w5.heap.size; omega) _).far (p := ⟨gu', 0, none⟩) (by show g < gu'; omega) _)
            have hx13 : Chg g (g + 1) w3 (((((w10.setCell ⟨w5.heap.size, 0, none⟩ (.int .i64 lv)).setCell ⟨w5.heap.size, 1, none⟩ (.slice V' mv cv')).setCell ⟨w5.heap.size, 2, none⟩ (.slice (some ⟨gu', 0, none⟩) n cu')).setCell ⟨w5.heap.size, 3, none⟩ (.int .i64 sm)).setCell ⟨gu', 0, none⟩ (.int .i64 1)) := ((((((S9.out.ch.then_ b10).setNewD (p := ⟨w5.heap.size, 0, none⟩) (by show w3.heap.size ≤ w5.heap.size; omega) _).setNewD (p := ⟨w5.heap.size, 1, none⟩) (by show w3.heap.size ≤ w5.heap.size; omega) _).setNewD (p := ⟨w5.heap.size, 2, none⟩) (by show w3.heap.size ≤ w5.heap.size; omega) _).setNewD (p := ⟨w5.heap.size, 3, none⟩) (by show w3.heap.size ≤ w5.heap.size; omega) _).setNewD (p := ⟨gu', 0, none⟩) (by show w3.heap.size ≤ gu'; omega) _)
            have S13 := Lib.hid (S9.out.keepB Xt9.out (by decide) (by exact fun e => hbt e.symm) hYb2 (by intro h; cases h) hke (by rw [hsz]; exact z10) hc13 hx13)
            have hVn : rowOf V' ≠ some gu' := hap' _ rfl
            have hkT : ∀ j, j ≠ w5.heap.size → ((((w10.setCell ⟨w5.heap.size, 0, none⟩ (.int .i64 lv)).setCell ⟨w5.heap.size, 1, none⟩ (.slice V' mv cv')).setCell ⟨w5.heap.size, 2, none⟩ (.slice (some ⟨gu', 0, none⟩) n cu')).setCell ⟨w5.heap.size, 3, none⟩ (.int .i64 sm)).heap[j]? = w10.heap[j]? := fun j hne => by
              rw [Below.heap_setCell _ ⟨w5.heap.size, 3, none⟩ _ j hne, Below.heap_setCell _ ⟨w5.heap.size, 2, none⟩ _ j hne, Below.heap_setCell _ ⟨w5.heap.size, 1, none⟩ _ j hne, Below.heap_setCell _ ⟨w5.heap.size, 0, none⟩ _ j hne]
            have OV13 := Lib.hid (show OwnI (((((w10.setCell ⟨w5.heap.size, 0, none⟩ (.int .i64 lv)).setCell ⟨w5.heap.size, 1, none⟩ (.slice V' mv cv')).setCell ⟨w5.heap.size, 2, none⟩ (.slice (some ⟨gu', 0, none⟩) n cu')).setCell ⟨w5.heap.size, 3, none⟩ (.int .i64 sm)).setCell ⟨gu', 0, none⟩ (.int .i64 1)) w3.heap.size (((((w10.setCell ⟨w5.heap.size, 0, none⟩ (.int .i64 lv)).setCell ⟨w5.heap.size, 1, none⟩ (.slice V' mv cv')).setCell ⟨w5.heap.size, 2, none⟩ (.slice (some ⟨gu', 0, none⟩) n cu')).setCell ⟨w5.heap.size, 3, none⟩ (.int .i64 sm)).setCell ⟨gu', 0, none⟩ (.int .i64 1)).heap.size V' mv cv' xs from (OwnI.of_own ((oV'.own.keep (w' := (((((w10.setCell ⟨w5.heap.size, 0, none⟩ (.int .i64 lv)).setCell ⟨w5.heap.size, 1, none⟩ (.slice V' mv cv')).setCell ⟨w5.heap.size, 2, none⟩ (.slice (some ⟨gu', 0, none⟩) n cu')).setCell ⟨w5.heap.size, 3, none⟩ (.int .i64 sm)).setCell ⟨gu', 0, none⟩ (.int .i64 1))) fun q hA _ => (Below.heap_setCell ((((w10.setCell ⟨w5.heap.size, 0, none⟩ (.int .i64 lv)).setCell ⟨w5.heap.size, 1, none⟩ (.slice V' mv cv')).setCell ⟨w5.heap.size, 2, none⟩ (.slice (some ⟨gu', 0, none⟩) n cu')).setCell ⟨w5.heap.size, 3, none⟩ (.int .i64 sm)) ⟨gu', 0, none⟩ _ q (by rintro rfl; exact hVn (by rw [hA]; rfl))).trans (hkT q (by rintro rfl; exact own_ne oV'.own Xt10.out (by decide) (by rw [hA]; rfl)))).mono (by omega)) oV'.small))
            have OU13 := Lib.hid (show OwnI (((((w10.setCell ⟨w5.heap.size, 0, none⟩ (.int .i64 lv)).setCell ⟨w5.heap.size, 1, none⟩ (.slice V' mv cv')).setCell ⟨w5.heap.size, 2, none⟩ (.slice (some ⟨gu', 0, none⟩) n cu')).setCell ⟨w5.heap.size, 3, none⟩ (.int .i64 sm)).setCell ⟨gu', 0, none⟩ (.int .i64 1)) w3.heap.size (((((w10.setCell ⟨w5.heap.size, 0, none⟩ (.int .i64 lv)).setCell ⟨w5.heap.size, 1, none⟩ (.slice V' mv cv')).setCell ⟨w5.heap.size, 2, none⟩ (.slice (some ⟨gu', 0, none⟩) n cu')).setCell ⟨w5.heap.size, 3, none⟩ (.int .i64 sm)).setCell ⟨gu', 0, none⟩ (.int .i64 1)).heap.size (some ⟨gu', 0, none⟩) n cu' (us.set 0 1) from (OwnI.of_own (((oU'.own.keep (w' := ((((w10.setCell ⟨w5.heap.size, 0, none⟩ (.int .i64 lv)).setCell ⟨w5.heap.size, 1, none⟩ (.slice V' mv cv')).setCell ⟨w5.heap.size, 2, none⟩ (.slice (some ⟨gu', 0, none⟩) n cu')).setCell ⟨w5.heap.size, 3, none⟩ (.int .i64 sm))) fun q hA _ => hkT q (by rintro rfl; exact own_ne oU'.own Xt10.out (by decide) (by rw [hA]; rfl))).set (k := 0) (x := 1)).mono (by omega)) oU'.small))
            have hw13 : w3.heap.size ≤ (((((w10.setCell ⟨w5.heap.size, 0, none⟩ (.int .i64 lv)).setCell ⟨w5.heap.size, 1, none⟩ (.slice V' mv cv')).setCell ⟨w5.heap.size, 2, none⟩ (.slice (some ⟨gu', 0, none⟩) n cu')).setCell ⟨w5.heap.size, 3, none⟩ (.int .i64 sm)).setCell ⟨gu', 0, none⟩ (.int .i64 1)).heap.size := by rw [hsz]; omega
            have ct0 := bxc Xt10.out 0 _ rfl
            have ctf0 := bxf Xt10.out 0
            have ct1 := bxc Xt10.out 1 _ rfl
            have ctf1 := bxf Xt10.out 1
            have ct2 := bxc Xt10.out 2 _ rfl
            have ctf2 := bxf Xt10.out 2
            have ct3 := bxc Xt10.out 3 _ rfl
            have ctf3 := bxf Xt10.out 3
            have lt10 := lt_of_block Xt10.out
            have hc13' := S13.out.cu
            clear T13 hke hkT hsz hc13 hx13 hVn oV' oU' hap' b10 S9 Xt9 lt9
            go_wp2_with fail
            generalize (((((w10.setCell ⟨w5.heap.size, 0, none⟩ (.int .i64 lv)).setCell ⟨w5.heap.size, 1, none⟩ (.slice V' mv cv')).setCell ⟨w5.heap.size, 2, none⟩ (.slice (some ⟨gu', 0, none⟩) n cu')).setCell ⟨w5.heap.size, 3, none⟩ (.int .i64 sm)).setCell ⟨gu', 0, none⟩ (.int .i64 1)) = w13 at *
            refine (one_any g _ _ _ hc13' (by omega) (by omega)).mono ?_
            rintro e w15 ⟨bb, rfl, hc15, hg15⟩
            have S15 := Lib.hid (S13.out.chg hc15 hg15)
            have Xt15 := Lib.hid (box_chg Xt13.out hg15 (by omega))
            have OV15 := Lib.hid (OV13.out.chgT hg15 hg3)
            have OU15 := Lib.hid (OU13.out.chgT hg15 hg3)
            have z15 := hg15.size
            clear S13 Xt13 OV13 OU13 hc13' hc15 hg15 ct0 ct1 ct2 ct3 ctf0 ctf1 ctf2 ctf3 lt10 u0 u1 Xt10
            cases bb
            · go_wp2
              go_roundw
              case rel => exact ⟨k - 1, p + 1, Y2, cp2, _, by go_num, by omega, by omega, S15.out.mono (by omega)⟩
              case measure => simp [intOf]; omega
            · have k3 := bxc S15.out.bx 3 _ rfl
              have lt15 := lt_of_block Xt15.out
              have ct0 := bxc Xt15.out 0 _ rfl
              have ct1 := bxc Xt15.out 1 _ rfl
              have ct2 := bxc Xt15.out 2 _ rfl
              have ct3 := bxc Xt15.out 3 _ rfl
              go_wp2_with fail
              refine (jFind_any Y2 V' (some ⟨gu', 0, none⟩) (p + 1) cp2 mv cv' n cu' (ts ++ [(⟨lv, xs, us, sm⟩ : TabD)]) (⟨lv, xs, us.set 0 1, sm⟩ : TabD) _ (S15.out.pl.tabs (by omega)) (by exact ⟨OV15.out.intR, OU15.out.intR⟩)).mono ?_
              rintro e w16 ⟨rfl, b16⟩
              obtain ⟨f2, hf2⟩ : ∃ f2, Hid (fndT (ts ++ [(⟨lv, xs, us, sm⟩ : TabD)]) (⟨lv, xs, us.set 0 1, sm⟩ : TabD) = f2) := ⟨_, Lib.hid rfl⟩
              rw [hf2.out]
              have S16 := Lib.hid (S15.out.below b16)
              have Xt16 := Lib.hid (bxb Xt15.out b16)
              have OV16 := Lib.hid (OV15.out.belT b16)
              have OU16 := Lib.hid (OU15.out.belT b16)
              have z16 := b16.size
              clear S15 Xt15 OV15 OU15 b16 k3 lt15 ct0 ct1 ct2 ct3
              by_cases hf0 : f2 < 0
              · have hdg : decide (f2 < 0) = true := by simpa using hf0
                clear hf0
                have k3 := bxc S16.out.bx 3 _ rfl
                have lt16 := lt_of_block Xt16.out
                have ct0 := bxc Xt16.out 0 _ rfl
                have ct1 := bxc Xt16.out 1 _ rfl
                have ct2 := bxc Xt16.out 2 _ rfl
                have ct3 := bxc Xt16.out 3 _ rfl
                obtain ⟨ys16, ho16⟩ := S16.out.pl.rows
                have hw16 : w3.heap.size ≤ w16.heap.size := by omega
                go_wp2_with (at_builtin; refine wp_appG (cs := #[.int .i64 lv, .slice V' mv cv', .slice (some ⟨gu', 0, none⟩) n cu', .int .i64 sm]) rfl _ _ rfl Tryz.underlying39 hi hz0 hz1 hz2 rfl (by omega) (by omega) rfl (by simp [Value.oneCell']) w3.heap.size Y2 (p + 1) cp2 ys16 rfl ho16 _ rfl (by simp) (by omega) (by omega) ?_; intro Y3 cp3 w17 own17 grow17 hr17; have D17 := Lib.hid (DTl.snoc (t := (⟨lv, xs, us.set 0 1, sm⟩ : TabD)) S16.out.pl ho16 OV16.out OU16.out grow17 own17); have S18 := Lib.hid (S16.out.app grow17 D17.out (hr17.imp id fun e => ⟨_, e, by omega⟩)); have Xb17 := box_app2 S16.out.bx grow17 (S16.out.pl.ne_box S16.out.bx (by decide)); have q3 := bxc Xb17 3 _ rfl; have qf3 := bxf Xb17 3)
                go_roundw
                case rel => exact ⟨k - 1, p + 1 + 1, Y3, cp3, _, by go_num, by omega, by omega, S18.out.mono (by omega)⟩
                case measure => simp [intOf]; omega
              · have hdg : decide (f2 < 0) = false := by simpa using hf0
                clear hf0
                go_wp2
                go_roundw
                case rel => exact ⟨k - 1, p + 1, Y2, cp2, _, by go_num, by omega, by omega, S16.out.mono (by omega)⟩
                case measure => simp [intOf]; omega
          · have hdf : decide (f < 0) = false := by simpa using hf0
            clear hf0
            go_wp2
            go_roundw
            case rel => exact ⟨k - 1, p, Y, cp, ts, by go_num, by omega, by omega, S7.out.mono (by omega)⟩
            case measure => simp [intOf]; omega
        · obtain rfl : k = 0 := by omega
          have Xr2 := Lib.hid (box_chg Xr.out hS.ch (by omega))
          have lr := lt_of_block Xr2.out
          have lb := lt_of_block hS.bx
          have cb0 := bxc hS.bx 0 (.slice P pn pc) rfl
          have cb1 := bxc hS.bx 1 (.slice A n c) rfl
          have cb2 := bxc hS.bx 2 (.slice Z m cz) rfl
          have cb3 := bxc hS.bx 3 (.slice Y p cp) rfl
          have cb4 := bxc hS.bx 4 (.int .i64 x2.a) rfl
          have cb5 := bxc hS.bx 5 (.int .i64 x2.b) rfl
          have cb6 := bxc hS.bx 6 (.int .i64 x2.c) rfl
          have cb7 := bxc hS.bx 7 (.int .i64 x2.d) rfl
          have cb8 := bxc hS.bx 8 (.int .i64 y1) rfl
          have cb9 := bxc hS.bx 9 (.int .i64 1) rfl
          have cb10 := bxc hS.bx 10 (.int .i64 y2) rfl
          have cb11 := bxc hS.bx 11 (.int .i64 1) rfl
          have cb12 := bxc hS.bx 12 (.int .i64 fl) rfl
          have cb13 := bxc hS.bx 13 (.slice none 0 0) rfl
          have cr0 := bxc Xr2.out 0 _ rfl
          have fr0 := bxf Xr2.out 0
          have cr1 := bxc Xr2.out 1 _ rfl
          have fr1 := bxf Xr2.out 1
          have cr2 := bxc Xr2.out 2 _ rfl
          have fr2 := bxf Xr2.out 2
          have cr3 := bxc Xr2.out 3 _ rfl
          have fr3 := bxf Xr2.out 3
          have cr4 := bxc Xr2.out 4 _ rfl
          have fr4 := bxf Xr2.out 4
          have cr5 := bxc Xr2.out 5 _ rfl
          have fr5 := bxf Xr2.out 5
          have cr6 := bxc Xr2.out 6 _ rfl
          have fr6 := bxf Xr2.out 6
          have cr7 := bxc Xr2.out 7 _ rfl
          have fr7 := bxf Xr2.out 7
          have cr8 := bxc Xr2.out 8 _ rfl
          have fr8 := bxf Xr2.out 8
          have cr9 := bxc Xr2.out 9 _ rfl
          have fr9 := bxf Xr2.out 9
          have cr10 := bxc Xr2.out 10 _ rfl
          have fr10 := bxf Xr2.out 10
          have cr11 := bxc Xr2.out 11 _ rfl
          have fr11 := bxf Xr2.out 11
          have cr12 := bxc Xr2.out 12 _ rfl
          have fr12 := bxf Xr2.out 12
          have cr13 := bxc Xr2.out 13 _ rfl
          have fr13 := bxf Xr2.out 13
          have RX := Lib.hid (fill14n (y0 := .slice P pn pc) (y1 := .slice A n c) (y2 := .slice Z m cz) (y3 := .slice Y p cp) (y4 := .int .i64 x2.a) (y5 := .int .i64 x2.b) (y6 := .int .i64 x2.c) (y7 := .int .i64 x2.d) (y8 := .int .i64 y1) (y9 := .int .i64 1) (y10 := .int .i64 y2) (y11 := .int .i64 1) (y12 := .int .i64 fl) (y13 := .slice none 0 0) Xr2.out)
          have rr0 := bxc RX.out 0 (.slice P pn pc) rfl
          have rr1 := bxc RX.out 1 (.slice A n c) rfl
          have rr2 := bxc RX.out 2 (.slice Z m cz) rfl
          have rr3 := bxc RX.out 3 (.slice Y p cp) rfl
          have rr4 := bxc RX.out 4 (.int .i64 x2.a) rfl
          have rr5 := bxc RX.out 5 (.int .i64 x2.b) rfl
          have rr6 := bxc RX.out 6 (.int .i64 x2.c) rfl
          have rr7 := bxc RX.out 7 (.int .i64 x2.d) rfl
          have rr8 := bxc RX.out 8 (.int .i64 y1) rfl
          have rr9 := bxc RX.out 9 (.int .i64 1) rfl
          have rr10 := bxc RX.out 10 (.int .i64 y2) rfl
          have rr11 := bxc RX.out 11 (.int .i64 1) rfl
          have rr12 := bxc RX.out 12 (.int .i64 fl) rfl
          have rr13 := bxc RX.out 13 (.slice none 0 0) rfl
          have hz := puts_size (g := w.heap.size) [(0, .slice P pn pc), (1, .slice A n c), (2, .slice Z m cz), (3, .slice Y p cp), (4, .int .i64 x2.a), (5, .int .i64 x2.b), (6, .int .i64 x2.c), (7, .int .i64 x2.d), (8, .int .i64 y1), (9, .int .i64 1), (10, .int .i64 y2), (11, .int .i64 1), (12, .int .i64 fl), (13, .slice none 0 0)] wo
          have hn := fun k (hk : k ≠ w.heap.size) => puts_ne (g := w.heap.size) [(0, .slice P pn pc), (1, .slice A n c), (2, .slice Z m cz), (3, .slice Y p cp), (4, .int .i64 x2.a), (5, .int .i64 x2.b), (6, .int .i64 x2.c), (7, .int .i64 x2.d), (8, .int .i64 y1), (9, .int .i64 1), (10, .int .i64 y2), (11, .int .i64 1), (12, .int .i64 fl), (13, .slice none 0 0)] wo hk
          have hk := puts_chg (lo := w.heap.size) (hi := w.heap.size + 1) [(0, .slice P pn pc), (1, .slice A n c), (2, .slice Z m cz), (3, .slice Y p cp), (4, .int .i64 x2.a), (5, .int .i64 x2.b), (6, .int .i64 x2.c), (7, .int .i64 x2.d), (8, .int .i64 y1), (9, .int .i64 1), (10, .int .i64 y2), (11, .int .i64 1), (12, .int .i64 fl), (13, .slice none 0 0)] wo (Chg.refl _ _ _) (Nat.le_refl _) (Nat.lt_succ_self _)
          have hG := hG3.out.trans hS.ch
          have FIN := Lib.hid (show DPl g (L + 900) w (.returned (.agg #[.slice P pn pc, .slice A n c, .slice Z m cz, .slice Y p cp, .int .i64 x2.a, .int .i64 x2.b, .int .i64 x2.c, .int .i64 x2.d, .int .i64 y1, .int .i64 1, .int .i64 y2, .int .i64 1, .int .i64 fl, .slice none 0 0])) (puts wo w.heap.size [(0, .slice P pn pc), (1, .slice A n c), (2, .slice Z m cz), (3, .slice Y p cp), (4, .int .i64 x2.a), (5, .int .i64 x2.b), (6, .int .i64 x2.c), (7, .int .i64 x2.d), (8, .int .i64 y1), (9, .int .i64 1), (10, .int .i64 y2), (11, .int .i64 1), (12, .int .i64 fl), (13, .slice none 0 0)]) from ⟨P, A, Z, pn, pc, n, c, m, cz, ps, vs, Y, p, cp, ts, x2, ⟨y1, 1, y2, 1⟩, fl, rfl, (SVo.out.chg hk (by omega)).mono (by omega), (hS.pl.chg hk (by omega)).mono (by omega), by omega, hxo2, hyo.out, hf0, hf1, (hS.cu.keep fun k hk => hn k (by omega)).mono (by omega), puts_new _ _ hG (Nat.le_refl _)⟩)
          clear RX hz hn hk hG hS SVo
          go_wp2
          exact bodyPost_ret (v := .agg #[.slice P pn pc, .slice A n c, .slice Z m cz, .slice Y p cp, .int .i64 x2.a, .int .i64 x2.b, .int .i64 x2.c, .int .i64 x2.d, .int .i64 y1, .int .i64 1, .int .i64 y2, .int .i64 1, .int .i64 fl, .slice none 0 0]) (by simp [results, Tryz.results153, go_sem, rr0, rr1, rr2, rr3, rr4, rr5, rr6, rr7, rr8, rr9, rr10, rr11, rr12, rr13]) rfl FIN.out
end
end Go.Proofs.YtfanpbfmnckmnaaGreat
