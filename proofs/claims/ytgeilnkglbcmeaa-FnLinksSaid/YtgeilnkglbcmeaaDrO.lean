/- A drawn noise table. -/
import Derived.Test.YtgeilnkglbcmeaaDrN
import Derived.Deep.RegionLaw
namespace Go.Proofs.Ytgeilnkglbcmeaa
open Go.RowKit

theorem row_box_ne {w : World} {lo n c sz b : Nat} {T1 T : TypeId} {A : Option Addr} {ys : List Value} {cs : Array Value} (h : w.ownsRow lo T1 sz (.slice A n c) n ys) (hb : w.heap[b]? = some (.cells cs T (0, 0))) (hT : T ≠ T1) : rowOf A ≠ some b := by
  intro e
  rcases h.2 with ⟨h0, _⟩ | ⟨b', cap', cur', hv', _, hh, _⟩
  · injection h0 with h0; subst h0; cases e
  · injection hv' with hv'
    subst hv'
    simp only [rowOf, Option.some.injEq] at e
    subst e
    rw [hb] at hh
    injection hh with hh
    injection hh with _ hh
    exact hT hh
theorem DNt.farBox {w : World} {lo hi n c q b i : Nat} {A : Option Addr} {T : TypeId} {cs : Array Value} {v : Value} (h : DNt w lo hi A n c q) (hb : w.heap[b]? = some (.cells cs T (0, 0))) (h1 : T ≠ 3) (h2 : T ≠ 27) : DNt (w.setCell ⟨b, i, none⟩ v) lo hi A n c q := by
  obtain ⟨ys, ho, hr⟩ := h.cells
  have hne := row_box_ne ho hb h2
  refine ⟨⟨ys, row_keep ho fun g _ hA hg => Below.heap_setCell w ⟨b, i, none⟩ _ g (fun e => hne (by rw [hA, e])), fun j hj => ?_⟩, h.top⟩
  obtain ⟨V, m, cv, xs, e, hv, hm⟩ := hr j hj
  have hne2 := own_box_ne hv.own hb h1
  exact ⟨V, m, cv, xs, e, ⟨hv.own.keep fun g hA hl => Below.heap_setCell w ⟨b, i, none⟩ _ g (fun e => hne2 (by rw [hA]; show some g = some b; rw [e])), hv.top, hv.small⟩, hm⟩
/-- A drawn noise table. -/
def DNoise (g L : Nat) (w : World) (e : Ending) (w' : World) : Prop := ∃ (A : Option Addr) (n c : Nat), e = .returned (.agg #[.slice A n c]) ∧ n ≤ 21 ∧ DNt w' w.heap.size w'.heap.size A n c 0 ∧ Cur w' g L ∧ Chg g (g + 1) w w'
/-- A table under way: the result's box, the table's box gt, its rows, the reader. -/
structure NtS (w0 w : World) (g L gt : Nat) (A : Option Addr) (n c q : Nat) : Prop where
  r : w.heap[w0.heap.size]? = some (.cells #[.slice none 0 0] 33 (0, 0))
  t : w.heap[gt]? = some (.cells #[.slice A n c] 33 (0, 0))
  d : DNt w (w0.heap.size + 1) w.heap.size A n c q
  c : Cur w g L
  G : Chg g (g + 1) w0 w
  lt : w0.heap.size < gt
  g0 : g < w0.heap.size
section
variable {w0 w w' : World} {g L L' gt n c q : Nat} {A : Option Addr}
theorem NtS.chg (h : NtS w0 w g L gt A n c q) (hc : Cur w' g L') (hg : Chg g (g + 1) w w') : NtS w0 w' g L' gt A n c q := by
  have := h.g0; have := h.lt
  exact ⟨box_chg h.r hg (by omega), box_chg h.t hg (by omega), (h.d.chg hg (.inr (by omega))).fit (Nat.le_refl _), hc, h.G.trans hg, h.lt, h.g0⟩
theorem NtS.below (h : NtS w0 w g L gt A n c q) (hb : Below w.heap.size w w') : NtS w0 w' g L gt A n c q :=
  ⟨box_below h.r hb, box_below h.t hb, (h.d.below hb).fit (Nat.le_refl _), h.c.below hb, h.G.then_ hb, h.lt, h.g0⟩
theorem NtS.mono (h : NtS w0 w g L gt A n c q) (hL : L ≤ L') : NtS w0 w g L' gt A n c q := ⟨h.r, h.t, h.d, h.c.mono hL, h.G, h.lt, h.g0⟩
theorem NtS.size (h : NtS w0 w g L gt A n c q) : w0.heap.size < w.heap.size ∧ gt < w.heap.size := ⟨lt_of_block h.r, lt_of_block h.t⟩
theorem NtS.tc (h : NtS w0 w g L gt A n c q) : w.cell? ⟨gt, 0, none⟩ = some (.slice A n c) := box_cell h.t 0 _ rfl
theorem NtS.tf (h : NtS w0 w g L gt A n c q) : w.frozen? ⟨gt, 0, none⟩ = false := box_free h.t 0
theorem NtS.row (h : NtS w0 w g L gt A n c q) (hq : 1 ≤ q) {k : Nat} (hk : k < n) : ∃ (ga gv m cv : Nat), A = some ⟨ga, 0, none⟩ ∧ w.cell? ⟨ga, k, none⟩ = some (.slice (some ⟨gv, 0, none⟩) m cv) ∧ q ≤ m ∧ m ≤ 16 ∧ w0.heap.size < gv ∧ rowOf A ≠ some gv ∧ gt ≠ gv := by
  obtain ⟨ys, h1, h2⟩ := h.d.cells
  obtain ⟨ga, rfl, hl, hs⟩ := row_head h1 (by omega)
  obtain ⟨V, m, cv, xs, e, hv, hm, hm2⟩ := h2 k hk
  obtain ⟨gv, rfl, hgv, _, _, _⟩ := hv.own.at_ (k := 0) (by omega)
  refine ⟨ga, gv, m, cv, rfl, (World.ownsRow.cellAt h1 k (by omega)).trans e, hm, hm2, by omega, row_ne2 hv.own h1 (by decide) rfl, fun e => ?_⟩
  exact own_box_ne hv.own h.t (by decide) (by show some gv = some gt; rw [e])
theorem NtS.cell (h : NtS w0 w g L gt A n c q) {k ga gv m cv i : Nat} (hA : A = some ⟨ga, 0, none⟩) (hk : k < n) (hc : w.cell? ⟨ga, k, none⟩ = some (.slice (some ⟨gv, 0, none⟩) m cv)) (hi : i < m) : (∃ u, w.cell? ⟨gv, i, none⟩ = some u) ∧ w.frozen? ⟨gv, i, none⟩ = false := by
  obtain ⟨ys, h1, h2⟩ := h.d.cells
  subst hA
  obtain ⟨V, m', cv', xs, e, hv, hm, hm2⟩ := h2 k hk
  have e2 := (World.ownsRow.cellAt h1 k (by omega)).trans e
  rw [hc] at e2
  simp only [Option.some.injEq, Value.slice.injEq] at e2
  obtain ⟨rfl, rfl, rfl⟩ := e2
  obtain ⟨g', e', _, _, h3, h4⟩ := hv.own.at_ hi
  simp only [Option.some.injEq, Addr.mk.injEq, and_true] at e'
  subst e'
  exact ⟨⟨_, h3⟩, h4⟩
theorem NtS.put (h : NtS w0 w g L gt A n c q) {gv i : Nat} {x : Int} (h1 : w0.heap.size < gv) (h2 : rowOf A ≠ some gv) (h3 : gt ≠ gv) : NtS w0 (w.setCell ⟨gv, i, none⟩ (.int .i64 x)) g L gt A n c q :=
  ⟨(Below.heap_setCell w ⟨gv, i, none⟩ _ _ (by show w0.heap.size ≠ gv; omega)).trans h.r, (Below.heap_setCell w ⟨gv, i, none⟩ _ _ h3).trans h.t, (h.d.setRow h2).fit (Nat.le_refl _), h.c.far (by show g < gv; have := h.g0; omega) _, h.G.setNewD (by show w0.heap.size ≤ gv; omega) _, h.lt, h.g0⟩
/-- The rows have grown; then the table's box is set. -/
theorem NtS.more (h : NtS w0 w g L gt A n c q) {A2 : Option Addr} {c2 : Nat} (hg : w.grownBy w' (rowOf A)) (hd : DNt w' (w0.heap.size + 1) w'.heap.size A2 (n + 1) c2 q) :
    NtS w0 (w'.setCell ⟨gt, 0, none⟩ (.slice A2 (n + 1) c2)) g L gt A2 (n + 1) c2 q ∧ w'.cell? ⟨gt, 0, none⟩ = some (.slice A n c) ∧ w'.frozen? ⟨gt, 0, none⟩ = false := by
  obtain ⟨ys, h1, _⟩ := h.d.cells
  have hr : ∀ k, rowOf A = some k → w0.heap.size + 1 ≤ k := fun k hk => (row_ge h1 k hk).1
  have t2 := box_app2 h.t hg (row_box_ne h1 h.t (by decide))
  have r2 := box_app2 h.r hg (fun e => by have := hr _ e; omega)
  have := h.g0; have hlt := h.lt
  refine ⟨⟨(Below.heap_setCell w' ⟨gt, 0, none⟩ _ _ (by show w0.heap.size ≠ gt; omega)).trans r2, box_set t2 0 _, (hd.farBox t2 (by decide) (by decide)).fit (Nat.le_refl _), ?_, ?_, h.lt, h.g0⟩, box_cell t2 0 _ rfl, box_free t2 0⟩
  · exact (cur_app h.c hg (fun k hk => by have := hr k hk; omega)).far (by show g < gt; omega) _
  · exact (chg_app h.G hg (fun k hk => by have := hr k hk; omega)).setNewD (by show w0.heap.size ≤ gt; omega) _
theorem NtS.less {q' : Nat} (h : NtS w0 w g L gt A n c q) (hq : q' ≤ q) : NtS w0 w g L gt A n c q' := ⟨h.r, h.t, h.d.less hq, h.c, h.G, h.lt, h.g0⟩
theorem NtS.quit (h : NtS w0 w g L gt A n c q) : w.cell? ⟨w0.heap.size, 0, none⟩ = some (.slice none 0 0) ∧ w.frozen? ⟨w0.heap.size, 0, none⟩ = false ∧ (w.setCell ⟨w0.heap.size, 0, none⟩ (.slice none 0 0)).cell? ⟨w0.heap.size, 0, none⟩ = some (.slice none 0 0) ∧ DNoise g L w0 (.returned (.agg #[.slice none 0 0])) (w.setCell ⟨w0.heap.size, 0, none⟩ (.slice none 0 0)) :=
  ⟨box_cell h.r 0 _ rfl, box_free h.r 0, box_cell (box_set h.r 0 (.slice none 0 0)) 0 _ rfl, none, 0, 0, rfl, by omega, DNt.nil_, h.c.far (by show g < w0.heap.size; exact h.g0) _, h.G.setNewD (Nat.le_refl _) _⟩
/-- The table is returned. -/
theorem NtS.done (h : NtS w0 w g L gt A n c q) (hn : n ≤ 21) : w.cell? ⟨w0.heap.size, 0, none⟩ = some (.slice none 0 0) ∧ w.frozen? ⟨w0.heap.size, 0, none⟩ = false ∧ (w.setCell ⟨w0.heap.size, 0, none⟩ (.slice A n c)).cell? ⟨w0.heap.size, 0, none⟩ = some (.slice A n c) ∧ DNoise g L w0 (.returned (.agg #[.slice A n c])) (w.setCell ⟨w0.heap.size, 0, none⟩ (.slice A n c)) :=
  ⟨box_cell h.r 0 _ rfl, box_free h.r 0, box_cell (box_set h.r 0 (.slice A n c)) 0 _ rfl, A, n, c, rfl, hn, (((h.d.farBox h.r (by decide) (by decide)).less (Nat.zero_le _)).fit (by omega)), h.c.far (by show g < w0.heap.size; exact h.g0) _, h.G.setNewD (Nat.le_refl _) _⟩
end

theorem DNoise.mono_ {g L L' : Nat} {w w' : World} {e : Ending} (h : DNoise g L w e w') (hL : L ≤ L') : DNoise g L' w e w' := by
  obtain ⟨A, n, c, h1, h2, h3, h4, h5⟩ := h
  exact ⟨A, n, c, h1, h2, h3, h4.mono hL, h5⟩

set_option maxRecDepth 100000 in
set_option maxHeartbeats 4000000 in
theorem noiseTable_any (g L : Nat) (w : World) (h : Cur w g L) (hL : L ≤ 700000) :
    Calls Try.prog 71 #[.pointer (some ⟨g, 0, none⟩)] w (DNoise g (L + 80) w) := by
  have hlt := h.lt
  have b0 := below_new w (.cells #[.slice none 0 0] 33)
  have xr := box_new w #[.slice none 0 0] 33
  have hc0 := h.below b0
  have hG0 : Chg g (g + 1) w (w.alloc (.cells #[.slice none 0 0] 33)) := Chg.of_below b0
  have z0 : w.heap.size + 1 ≤ (w.alloc (.cells #[.slice none 0 0] 33)).heap.size := by simp
  clear h b0
  go_enter Try.func71, Try.ntmps71
  go_wp2_with fail
  generalize w.alloc (.cells #[.slice none 0 0] 33) = w0 at *
  refine (pick_any g _ _ _ hc0 (by omega) (by omega)).mono ?_
  rintro e w1 ⟨v, rfl, hv0, hv1, hc1, hg1⟩
  replace hv1 : v ≤ 3 := by simpa using hv1
  obtain ⟨d, hd⟩ := Int.eq_ofNat_of_zero_le hv0
  subst hd
  have hd3 : d ≤ 3 := by omega
  replace xr := box_chg xr hg1 (by omega)
  have hG1 := hG0.trans hg1
  have z1 := hg1.size
  clear hv0 hv1 hc0 hG0 hg1
  go_wp2_with fail
  refine (yUniform_any d _ hd3).mono ?_
  rintro e w2 ⟨A, c, rfl, od, b2⟩
  replace xr := box_below xr b2
  have hc2 := hc1.below b2
  have hG2 := hG1.then_ b2
  have z2 := b2.size
  replace od := od.fit (show w.heap.size + 1 ≤ _ by omega)
  clear hc1 hG1 b2
  have b3 := below_new w2 (.cells #[.slice A (d + 1) c] 33)
  have xt := box_new w2 #[.slice A (d + 1) c] 33
  replace xr := box_below xr b3
  have hc3 := hc2.below b3
  have hG3 := hG2.then_ b3
  have n3 : NtS w (w2.alloc (.cells #[.slice A (d + 1) c] 33)) g (L + 2) w2.heap.size A (d + 1) c 16 := ⟨xr, xt, (od.below b3).fit (Nat.le_refl _), hc3, hG3, by omega, hlt⟩
  clear hc2 hG2 b3 xr xt od hG3
  go_wp2_with fail
  generalize w2.alloc (.cells #[.slice A (d + 1) c] 33) = w3 at *
  refine (one_any g _ _ _ hc3 (by omega) (by omega)).mono ?_
  rintro e w4 ⟨b, rfl, hc4, hg4⟩
  have n4 := n3.chg hc4 hg4
  clear n3 hc3 hc4 hg4
  cases b
  ·
    have hc9 := n4.c
    go_wp2_with fail
    refine (pick_any g _ _ _ hc9 (by omega) (by omega)).mono ?_
    rintro e w20 ⟨s, rfl, s0, s1, hc20, hg20⟩
    clear s1 hc9
    have n20 := (n4.chg hc20 hg20).mono (show _ ≤ L + 12 by omega)
    clear hc20 hg20 n4
    by_cases t0 : s = 0
    · subst t0
      obtain ⟨ga, gv, m, cv, hA, hcr, hm1, hm2, hv0, hv1, hv2⟩ := n20.row (by omega) (k := 0) (by omega)
      try simp only [Option.some.injEq, Addr.mk.injEq, and_true] at hA
      subst hA
      have e0 := n20.tc
      have b9 := below_new w20 (.cells #[.int .i64 0, .int .i64 1, .int .i64 (-1)] 3)
      have x9 := box_new w20 #[.int .i64 0, .int .i64 1, .int .i64 (-1)] 3
      have o9 := own_lit [0, 1, -1] x9 (by decide)
      have n9 := n20.below b9
      have c9 := n9.c
      have s9 := n20.size
      have lg := n20.g0
      have hr9 : (w20.alloc (.cells #[.int .i64 0, .int .i64 1, .int .i64 (-1)] 3)).cell? ⟨ga, 0, none⟩ = some (.slice (some ⟨gv, 0, none⟩) m cv) := (b9.cell (block_lt_of_cell hcr)).trans hcr
      have hl9 := block_lt_of_cell hr9
      have hn9 : (0 : Int) ≤ ((d + 1 : Nat) : Int) - 1 := by omega
      have hn8 : IntKind.i64.wrap (((d + 1 : Nat) : Int) - 1) = ((d : Nat) : Int) := by rw [IntWalk.i64_in _ (by omega)]; omega
      have hn7 : (d : Int) < ((d + 1 : Nat) : Int) := by omega
      have hn6 : (0 : Int) ≤ (d : Int) := by omega
      have hn5 : (d : Int) < (d : Int) + 1 := by omega
      have hn4 : IntKind.i64.wrap ((d : Int) + 1 - 1) = (d : Int) := by rw [IntWalk.i64_in _ (by omega)]; omega
      have hn3 : IntKind.i64.wrap (d : Int) = (d : Int) := IntWalk.i64_in _ (by omega)
      have hm3 : (3 : Int) < (m : Int) := by omega
      have hm4 : 0 < m := by omega
      have H9 := Lib.hid (fun (q : World) (hc : Cur q g (L + 12 + 2)) (hq : Chg g (g + 1) (w20.alloc (.cells #[.int .i64 0, .int .i64 1, .int .i64 (-1)] 3)) q) => (show (q.cell? ⟨w2.heap.size, 0, none⟩ = some (.slice (some ⟨ga, 0, none⟩) (d + 1) c) ∧ q.cell? ⟨ga, 0, none⟩ = some (.slice (some ⟨gv, 0, none⟩) m cv)) ∧ ((∃ u, q.cell? ⟨gv, 3, none⟩ = some u) ∧ q.frozen? ⟨gv, 3, none⟩ = false) ∧ ∀ x : Int, NtS w (q.setCell ⟨gv, 3, none⟩ (.int .i64 x)) g (L + 12 + 2) w2.heap.size (some ⟨ga, 0, none⟩) (d + 1) c 16 ∧ (q.setCell ⟨gv, 3, none⟩ (.int .i64 x)).cell? ⟨w2.heap.size, 0, none⟩ = some (.slice (some ⟨ga, 0, none⟩) (d + 1) c) ∧ (q.setCell ⟨gv, 3, none⟩ (.int .i64 x)).cell? ⟨ga, 0, none⟩ = some (.slice (some ⟨gv, 0, none⟩) m cv) from
        have n := n9.chg hc hq
        have hr : q.cell? ⟨ga, 0, none⟩ = some (.slice (some ⟨gv, 0, none⟩) m cv) := (World.cell?_of_block (hq.block ga hl9 (by have := n9.d.cells; obtain ⟨ys, ho, _⟩ := this; have := (row_ge ho ga rfl).1; omega))).trans hr9
        ⟨⟨n.tc, hr⟩, n.cell rfl (by omega) hr (by omega), fun x => ⟨n.put hv0 hv1 hv2, (n.put hv0 hv1 hv2).tc, (World.cell?_setCell_other _ _ _ _ (fun e => hv1 (by have := congrArg Addr.block e; show some ga = some gv; rw [show ga = gv from this.symm]))).trans hr⟩⟩))
      go_wp2_with fail
      go_region_held3 (fun w' => w'.cell? ⟨w2.heap.size, 0, none⟩ = some (.slice (some ⟨ga, 0, none⟩) (d + 1) c) ∧ w'.cell? ⟨ga, 0, none⟩ = some (.slice (some ⟨gv, 0, none⟩) m cv)) (first | exact ⟨e0, hcr⟩ | exact q1 | exact q4 | go_keep) ((skip; (go_at_call 83; refine (among_any g _ _ _ _ _ _ (-1) (1) [0, 1, -1] _ (by exact c9) (by omega) (by first | exact o9 | exact o9.drew) (by omega) (by decide) (by decide) (by decide)).mono ?_; rintro e w30 ⟨y, rfl, y0, y1, hc30, hg30⟩; replace hg30 : Chg g (g + 1) (w20.alloc (.cells #[.int .i64 0, .int .i64 1, .int .i64 (-1)] 3)) w30 := (by first | exact hg30 | exact (Chg.of_below (Below.refl _ _).drew).trans hg30); obtain ⟨q1, q2, q3⟩ := H9.out w30 (hc30.mono (by omega)) hg30; obtain ⟨⟨u, hu⟩, hf⟩ := q2; have Q1 := Lib.hid q1; obtain ⟨q5, q4⟩ := q3 y; have N30 := Lib.hid q5; clear q3 q5)))
      have n30 := N30.out
      clear q1 q4 hu hf e0 hcr b9 x9 o9 n9 c9 hr9 hl9 N30
      have e0 := n30.tc
      obtain ⟨p0, f0, r0, hP⟩ := n30.done (by omega)
      have HP := Lib.hid hP
      have lw := n30.size.1
      clear hP n30
      go_wp2
      exact bodyPost_ret (v := .agg #[.slice _ (d + 1) _]) (by simp [results, Try.results71, go_sem, r0]; first | done | exact ⟨rfl, rfl⟩) rfl (HP.out.mono_ (by omega))
    have t0E : (s == 0) = false := by rw [beq_eq_false_iff_ne]; exact t0
    by_cases t1 : s = 1
    · subst t1
      have b9 := below_new w20 (.cells #[.int .i64 0, .int .i64 1] 3)
      have x9 := box_new w20 #[.int .i64 0, .int .i64 1] 3
      have o9 := own_lit [0, 1] x9 (by decide)
      have n9 := (n20.below b9).less (Nat.zero_le _)
      have s9 := n20.size
      have hO := Lib.hid (OwnI.fit o9 (show w.heap.size + 1 ≤ _ by omega))
      obtain ⟨ys, ho, hr⟩ := n9.d.cells
      have HR := Lib.hid hr
      have e0 := n20.tc
      have N9 := Lib.hid n9
      clear hr n9 n20 b9 x9 o9
      obtain ⟨i1, hj, hy0, hy1, hy2⟩ := info_parts Try.infoIntS
      have hsz : w.heap.size + 1 ≤ (w20.alloc (.cells #[.int .i64 0, .int .i64 1] 3)).heap.size := by simp; omega
      go_wp2_with (at_builtin; refine wp_appG (cs := #[.slice (some ⟨w20.heap.size, 0, none⟩) 2 2]) rfl _ _ rfl Try.underlying22 hj hy0 hy1 hy2 rfl (by omega) (by omega) rfl (by simp [Value.oneCell']) (w.heap.size + 1) A (d + 1) c ys rfl ho _ rfl (by simp) (by omega) hsz ?_; intro A8 c8 w8 own8 grow8 _; obtain ⟨n8, t8, f8⟩ := N9.out.more grow8 (DNt.snoc ho HR.out hO.out (Nat.zero_le _) (by decide) grow8 own8); have e0' := n8.tc; obtain ⟨p0, f0, r0, hP⟩ := n8.done (by omega); have HP := Lib.hid hP; have lw := n8.size.1; clear n8 own8 grow8 hP)
      exact bodyPost_ret (v := .agg #[.slice _ (d + 1 + 1) _]) (by simp [results, Try.results71, go_sem, r0]; first | done | exact ⟨rfl, rfl⟩) rfl (HP.out.mono_ (by omega))
    have t1E : (s == 1) = false := by rw [beq_eq_false_iff_ne]; exact t1
    by_cases t2 : s = 2
    · subst t2
      obtain ⟨p0, f0, r0, hP⟩ := n20.quit
      have HP := Lib.hid hP
      have lw := n20.size.1
      clear hP n20
      go_wp2
      exact bodyPost_ret (v := .agg #[.slice none 0 0]) (by simp [results, Try.results71, go_sem, r0]) rfl (HP.out.mono_ (by omega))
    have t2E : (s == 2) = false := by rw [beq_eq_false_iff_ne]; exact t2
    by_cases t3 : s = 3
    · subst t3
      go_wp2_with fail
      go_loopw [65] (fun _ wr => ∃ (A : Option Addr) (k c : Nat), k ≤ 21 ∧ NtS w wr g (L + 14 + 2 * k) w2.heap.size A k c 16) (fun _ wr => 21 - (match wr.cell? ⟨w2.heap.size, 0, none⟩ with | some (.slice _ k _) => k | _ => 0))
      case atStart => exact ⟨A, d + 1, c, by omega, n20.mono (by omega)⟩
      case round =>
        clear n20
        obtain ⟨A, k, c, hk, n21⟩ := hrel
        have e0 := n21.tc
        have hc := n21.c
        have M0 := Lib.hid e0
        have N21 := Lib.hid n21
        have s9 := n21.size
        clear n21
        go_wp2_with fail
        go_region_held3 (fun w' => w'.cell? ⟨w2.heap.size, 0, none⟩ = some (.slice A k c)) (first | exact e0 | exact q0 | go_keep) ((first | (go_at_call 112; refine (pick_any g _ _ _ (by exact hc) (by omega) (by omega)).mono ?_; rintro e w22 ⟨u, rfl, hu0, hu1, hc22, hg22⟩; replace hu1 : u ≤ 1 := (by simpa using hu1); replace hg22 : Chg g (g + 1) wr w22 := (by first | exact hg22 | exact (Chg.of_below (Below.refl _ _).drew).trans hg22); have hw22 : IntKind.i64.wrap (20 + u) = 20 + u := IntWalk.i64_in _ (by omega); have N22 := Lib.hid (N21.out.chg hc22 hg22); have q0 := N22.out.tc; have s22 := N22.out.size) | fail))
        clear N21 e0 hc hc22 hg22
        by_cases hlk : (k : Int) < 20 + u
        · have hd : decide ((k : Int) < 20 + u) = true := by simpa using hlk
          have hk2 : k + 1 ≤ 21 := by omega
          obtain ⟨i1, hj, hy0, hy1, hy2⟩ := info_parts Try.infoIntS
          have hmk : ∀ W : World, (Instr.makeSlice 27 (.int .i64 16) (.int .i64 16)).run Try.prog W = .ok (.slice (some ⟨W.heap.size, 0, none⟩) 16 16) (W.alloc (.cells (madeCells #[.int .i64 0] 16) 3)) := fun W => run_make_row' 27 3 (.int .i64 0) 8 Try.underlying27 Try.infoInt rfl .i64 .i64 16 (by omega) (by omega) W
          have b9 := below_new w22 (.cells (madeCells #[.int .i64 0] 16) 3)
          have o9 := OwnI.of_own (own_made w22 16 (by omega)) (show 16 ≤ 1099511627776 by omega)
          have n9 := N22.out.below b9
          have hO := Lib.hid (OwnI.fit o9 (show w.heap.size + 1 ≤ _ by omega))
          obtain ⟨ys, ho, hr⟩ := n9.d.cells
          have HR := Lib.hid hr
          have N9 := Lib.hid n9
          have hsz : w.heap.size + 1 ≤ (w22.alloc (.cells (madeCells #[.int .i64 0] 16) 3)).heap.size := by simp; omega
          clear hr n9 b9 o9
          go_wp2_with fail
          go_region_law ((refine step_appGd (cs := #[.slice (some ⟨w22.heap.size, 0, none⟩) 16 16]) (by rfl) _ _ (by rfl) Try.underlying22 hj hy0 hy1 hy2 rfl (by omega) (by omega) rfl (by simp [Value.oneCell']) (w.heap.size + 1) A k c ys (by rfl) ho _ (by rfl) (by simp) (by omega) hsz ?_; intro A8 c8 w8 own8 grow8 _; obtain ⟨n8, t8, f8⟩ := N9.out.more grow8 (DNt.snoc ho HR.out hO.out (Nat.le_refl _) (Nat.le_refl _) grow8 own8); have N8 := Lib.hid n8; have m8 := n8.tc; clear n8 own8 grow8))
          all_goals (go_wp2; go_roundw)
          all_goals first | exact ⟨A8, k + 1, c8, hk2, N8.out.mono (by omega)⟩ | (rw [m8, M0.out]; show 21 - (k + 1) < 21 - k; omega)
        · have hd : decide ((k : Int) < 20 + u) = false := by simpa using hlk
          have n22 := N22.out
          clear N22 q0
          have e0 := n22.tc
          obtain ⟨p0, f0, r0, hP⟩ := n22.done (by omega)
          have HP := Lib.hid hP
          have lw := n22.size.1
          clear hP n22
          go_wp2
          exact bodyPost_ret (v := .agg #[.slice _ (k) _]) (by simp [results, Try.results71, go_sem, r0]; first | done | exact ⟨rfl, rfl⟩) rfl (HP.out.mono_ (by omega))
    have t3E : (s == 3) = false := by rw [beq_eq_false_iff_ne]; exact t3
    by_cases t4 : s = 4
    · subst t4
      obtain ⟨ga, gv, m, cv, hA, hcr, hm1, hm2, hv0, hv1, hv2⟩ := n20.row (by omega) (k := d) (by omega)
      try simp only [Option.some.injEq, Addr.mk.injEq, and_true] at hA
      subst hA
      have e0 := n20.tc
      have b9 := below_new w20 (.cells #[.int .i64 6, .int .i64 (-6), .int .i64 5] 3)
      have x9 := box_new w20 #[.int .i64 6, .int .i64 (-6), .int .i64 5] 3
      have o9 := own_lit [6, -6, 5] x9 (by decide)
      have n9 := n20.below b9
      have c9 := n9.c
      have s9 := n20.size
      have lg := n20.g0
      have hr9 : (w20.alloc (.cells #[.int .i64 6, .int .i64 (-6), .int .i64 5] 3)).cell? ⟨ga, d, none⟩ = some (.slice (some ⟨gv, 0, none⟩) m cv) := (b9.cell (block_lt_of_cell hcr)).trans hcr
      have hl9 := block_lt_of_cell hr9
      have hn9 : (0 : Int) ≤ ((d + 1 : Nat) : Int) - 1 := by omega
      have hn8 : IntKind.i64.wrap (((d + 1 : Nat) : Int) - 1) = ((d : Nat) : Int) := by rw [IntWalk.i64_in _ (by omega)]; omega
      have hn7 : (d : Int) < ((d + 1 : Nat) : Int) := by omega
      have hn6 : (0 : Int) ≤ (d : Int) := by omega
      have hn5 : (d : Int) < (d : Int) + 1 := by omega
      have hn4 : IntKind.i64.wrap ((d : Int) + 1 - 1) = (d : Int) := by rw [IntWalk.i64_in _ (by omega)]; omega
      have hn3 : IntKind.i64.wrap (d : Int) = (d : Int) := IntWalk.i64_in _ (by omega)
      have hm3 : (0 : Int) < (m : Int) := by omega
      have hm4 : 0 < m := by omega
      have H9 := Lib.hid (fun (q : World) (hc : Cur q g (L + 12 + 2)) (hq : Chg g (g + 1) (w20.alloc (.cells #[.int .i64 6, .int .i64 (-6), .int .i64 5] 3)) q) => (show (q.cell? ⟨w2.heap.size, 0, none⟩ = some (.slice (some ⟨ga, 0, none⟩) (d + 1) c) ∧ q.cell? ⟨ga, d, none⟩ = some (.slice (some ⟨gv, 0, none⟩) m cv)) ∧ ((∃ u, q.cell? ⟨gv, 0, none⟩ = some u) ∧ q.frozen? ⟨gv, 0, none⟩ = false) ∧ ∀ x : Int, NtS w (q.setCell ⟨gv, 0, none⟩ (.int .i64 x)) g (L + 12 + 2) w2.heap.size (some ⟨ga, 0, none⟩) (d + 1) c 16 ∧ (q.setCell ⟨gv, 0, none⟩ (.int .i64 x)).cell? ⟨w2.heap.size, 0, none⟩ = some (.slice (some ⟨ga, 0, none⟩) (d + 1) c) ∧ (q.setCell ⟨gv, 0, none⟩ (.int .i64 x)).cell? ⟨ga, d, none⟩ = some (.slice (some ⟨gv, 0, none⟩) m cv) from
        have n := n9.chg hc hq
        have hr : q.cell? ⟨ga, d, none⟩ = some (.slice (some ⟨gv, 0, none⟩) m cv) := (World.cell?_of_block (hq.block ga hl9 (by have := n9.d.cells; obtain ⟨ys, ho, _⟩ := this; have := (row_ge ho ga rfl).1; omega))).trans hr9
        ⟨⟨n.tc, hr⟩, n.cell rfl (by omega) hr (by omega), fun x => ⟨n.put hv0 hv1 hv2, (n.put hv0 hv1 hv2).tc, (World.cell?_setCell_other _ _ _ _ (fun e => hv1 (by have := congrArg Addr.block e; show some ga = some gv; rw [show ga = gv from this.symm]))).trans hr⟩⟩))
      go_wp2_with fail
      go_region_held3 (fun w' => w'.cell? ⟨w2.heap.size, 0, none⟩ = some (.slice (some ⟨ga, 0, none⟩) (d + 1) c) ∧ w'.cell? ⟨ga, d, none⟩ = some (.slice (some ⟨gv, 0, none⟩) m cv)) (first | exact ⟨e0, hcr⟩ | exact q1 | exact q4 | go_keep) ((skip; (go_at_call 83; refine (among_any g _ _ _ _ _ _ (-6) (6) [6, -6, 5] _ (by exact c9) (by omega) (by first | exact o9 | exact o9.drew) (by omega) (by decide) (by decide) (by decide)).mono ?_; rintro e w31 ⟨y, rfl, y0, y1, hc31, hg31⟩; replace hg31 : Chg g (g + 1) (w20.alloc (.cells #[.int .i64 6, .int .i64 (-6), .int .i64 5] 3)) w31 := (by first | exact hg31 | exact (Chg.of_below (Below.refl _ _).drew).trans hg31); obtain ⟨q1, q2, q3⟩ := H9.out w31 (hc31.mono (by omega)) hg31; obtain ⟨⟨u, hu⟩, hf⟩ := q2; have Q1 := Lib.hid q1; obtain ⟨q5, q4⟩ := q3 y; have N31 := Lib.hid q5; clear q3 q5)))
      have n31 := N31.out
      clear q1 q4 hu hf e0 hcr b9 x9 o9 n9 c9 hr9 hl9 N31
      have e0 := n31.tc
      obtain ⟨p0, f0, r0, hP⟩ := n31.done (by omega)
      have HP := Lib.hid hP
      have lw := n31.size.1
      clear hP n31
      go_wp2
      exact bodyPost_ret (v := .agg #[.slice _ (d + 1) _]) (by simp [results, Try.results71, go_sem, r0]; first | done | exact ⟨rfl, rfl⟩) rfl (HP.out.mono_ (by omega))
    have t4E : (s == 4) = false := by rw [beq_eq_false_iff_ne]; exact t4
    have e0 := n20.tc
    obtain ⟨p0, f0, r0, hP⟩ := n20.done (by omega)
    have HP := Lib.hid hP
    have lw := n20.size.1
    clear hP n20
    go_wp2
    exact bodyPost_ret (v := .agg #[.slice _ (d + 1) _]) (by simp [results, Try.results71, go_sem, r0]; first | done | exact ⟨rfl, rfl⟩) rfl (HP.out.mono_ (by omega))
  · have e0 := n4.tc
    by_cases hd1 : 1 ≤ d
    · have hdd : decide ((1 : Int) < ((d + 1 : Nat) : Int)) = true := decide_eq_true (by omega)
      have hc4 := n4.c
      go_wp2_with fail
      refine (pick_any g _ _ _ hc4 (by omega) (by omega)).mono ?_
      rintro e w5 ⟨v, rfl, v0, v1, hc5, hg5⟩
      have n5 := n4.chg hc5 hg5
      obtain ⟨kv, hkv⟩ := Int.eq_ofNat_of_zero_le v0
      subst hkv
      have hkd : kv + 1 ≤ d := by split at v1 <;> omega
      obtain ⟨kk, hkk⟩ : ∃ kk : Nat, kk = kv + 1 := ⟨_, rfl⟩
      have hkc : (1 : Int) + (kv : Int) = (kk : Int) := by omega
      have hkk2 : kk ≤ d := by omega
      clear v0 v1 hc4 hc5 hg5 n4 e0
      obtain ⟨ga, gv, m, cv, hA, hcr, hm1, hm2, hv0, hv1, hv2⟩ := n5.row (by omega) (k := kk) (by omega)
      subst hA
      have e0 := n5.tc
      have c5 := n5.c
      have lg := n5.g0
      have hl5 := block_lt_of_cell hcr
      have hkn : (0 : Int) ≤ (kk : Int) := by omega
      have hkn2 : (kk : Int) < ((d + 1 : Nat) : Int) := by omega
      have hkn3 : (kk : Int) < (d : Int) + 1 := by omega
      have hkn4 : kk < d + 1 := by omega
      have H9 := Lib.hid (fun (q : World) (L' : Nat) (hc : Cur q g L') (hq : Chg g (g + 1) w5 q) => (show NtS w q g L' w2.heap.size (some ⟨ga, 0, none⟩) (d + 1) c 16 ∧ (q.cell? ⟨w2.heap.size, 0, none⟩ = some (.slice (some ⟨ga, 0, none⟩) (d + 1) c) ∧ q.cell? ⟨ga, kk, none⟩ = some (.slice (some ⟨gv, 0, none⟩) m cv)) ∧ ∀ i, i < m → ((∃ u, q.cell? ⟨gv, i, none⟩ = some u) ∧ q.frozen? ⟨gv, i, none⟩ = false) ∧ ∀ x : Int, NtS w (q.setCell ⟨gv, i, none⟩ (.int .i64 x)) g L' w2.heap.size (some ⟨ga, 0, none⟩) (d + 1) c 16 ∧ (q.setCell ⟨gv, i, none⟩ (.int .i64 x)).cell? ⟨w2.heap.size, 0, none⟩ = some (.slice (some ⟨ga, 0, none⟩) (d + 1) c) ∧ (q.setCell ⟨gv, i, none⟩ (.int .i64 x)).cell? ⟨ga, kk, none⟩ = some (.slice (some ⟨gv, 0, none⟩) m cv) from
        have n := n5.chg hc hq
        have hr : q.cell? ⟨ga, kk, none⟩ = some (.slice (some ⟨gv, 0, none⟩) m cv) := (World.cell?_of_block (hq.block ga hl5 (by have := n5.d.cells; obtain ⟨ys, ho, _⟩ := this; have := (row_ge ho ga rfl).1; omega))).trans hcr
        ⟨n, ⟨n.tc, hr⟩, fun i hi => ⟨n.cell rfl (by omega) hr hi, fun x => ⟨n.put hv0 hv1 hv2, (n.put hv0 hv1 hv2).tc, (World.cell?_setCell_other _ _ _ _ (fun e => hv1 (by have := congrArg Addr.block e; show some ga = some gv; rw [show ga = gv from this.symm]))).trans hr⟩⟩⟩))
      have tok1 : True := trivial
      clear hkk hl5
      go_wp2_with fail
      go_region_held3 (fun w' => w'.cell? ⟨w2.heap.size, 0, none⟩ = some (.slice (some ⟨ga, 0, none⟩) (d + 1) c) ∧ w'.cell? ⟨ga, kk, none⟩ = some (.slice (some ⟨gv, 0, none⟩) m cv)) (first | exact ⟨e0, hcr⟩ | exact q2 | exact q5 | exact q8 | go_keep) ((first | (have _t := tok1; go_at_call 112; refine (pick_any g _ 16 _ (by exact c5) (by omega) (by omega)).mono ?_; rintro e w6 ⟨i, rfl, i0, i1, hc6, hg6⟩; replace i1 : i ≤ 15 := (by simpa using i1); replace hg6 : Chg g (g + 1) w5 w6 := (by first | exact hg6 | exact (Chg.of_below (Below.refl _ _).drew).trans hg6); obtain ⟨q1, q2, _⟩ := H9.out w6 _ hc6 hg6; have c6 := q1.c; obtain ⟨ni, hni⟩ := Int.eq_ofNat_of_zero_le i0; subst hni; have hnm : (ni : Int) < (m : Int) := (by omega); have hn0 : (0 : Int) ≤ (ni : Int) := (by omega); have H6 := Lib.hid hg6; clear q1 hg6 tok1 _t; have tok2 : True := trivial) | (have _t := tok2; go_at_call 112; refine (pick_any g _ 3 _ (by exact c6) (by omega) (by omega)).mono ?_; rintro e w7 ⟨u, rfl, u0, u1, hc7, hg7⟩; replace u1 : u ≤ 2 := (by simpa using u1); have hw7 : IntKind.i64.wrap (u - 1) = u - 1 := IntWalk.i64_in _ (by omega); obtain ⟨q4, q5, q6⟩ := H9.out w7 _ hc7 (H6.out.trans hg7); obtain ⟨⟨⟨uu, huu⟩, hff⟩, q7⟩ := q6 ni (by omega); obtain ⟨q9, q8⟩ := q7 (u - 1); have N7 := Lib.hid q9; clear q4 q6 q7 q9) | fail))
      have n7 := N7.out.mono (show _ ≤ L + 10 by omega)
      clear N7 q5 q8 q2 huu hff e0 hcr H6 H9 n5 c5 c6 hc6 hc7 hg7
      obtain ⟨A, hA2⟩ : ∃ A : Option Addr, (some ⟨ga, 0, none⟩ : Option Addr) = A := ⟨_, rfl⟩
      rw [hA2] at n7
      clear hA2 hv1 hkn hkn2 hkn3 hkn4
      generalize w7.setCell ⟨gv, ni, none⟩ (.int .i64 (u - 1)) = w8 at *
      have hc9 := n7.c
      go_wp2_with fail
      refine (pick_any g _ _ _ hc9 (by omega) (by omega)).mono ?_
      rintro e w20 ⟨s, rfl, s0, s1, hc20, hg20⟩
      clear s1 hc9
      have n20 := (n7.chg hc20 hg20).mono (show _ ≤ L + 12 by omega)
      clear hc20 hg20 n7
      by_cases t0 : s = 0
      · subst t0
        obtain ⟨ga, gv, m, cv, hA, hcr, hm1, hm2, hv0, hv1, hv2⟩ := n20.row (by omega) (k := 0) (by omega)
        try simp only [Option.some.injEq, Addr.mk.injEq, and_true] at hA
        subst hA
        have e0 := n20.tc
        have b9 := below_new w20 (.cells #[.int .i64 0, .int .i64 1, .int .i64 (-1)] 3)
        have x9 := box_new w20 #[.int .i64 0, .int .i64 1, .int .i64 (-1)] 3
        have o9 := own_lit [0, 1, -1] x9 (by decide)
        have n9 := n20.below b9
        have c9 := n9.c
        have s9 := n20.size
        have lg := n20.g0
        have hr9 : (w20.alloc (.cells #[.int .i64 0, .int .i64 1, .int .i64 (-1)] 3)).cell? ⟨ga, 0, none⟩ = some (.slice (some ⟨gv, 0, none⟩) m cv) := (b9.cell (block_lt_of_cell hcr)).trans hcr
        have hl9 := block_lt_of_cell hr9
        have hn9 : (0 : Int) ≤ ((d + 1 : Nat) : Int) - 1 := by omega
        have hn8 : IntKind.i64.wrap (((d + 1 : Nat) : Int) - 1) = ((d : Nat) : Int) := by rw [IntWalk.i64_in _ (by omega)]; omega
        have hn7 : (d : Int) < ((d + 1 : Nat) : Int) := by omega
        have hn6 : (0 : Int) ≤ (d : Int) := by omega
        have hn5 : (d : Int) < (d : Int) + 1 := by omega
        have hn4 : IntKind.i64.wrap ((d : Int) + 1 - 1) = (d : Int) := by rw [IntWalk.i64_in _ (by omega)]; omega
        have hn3 : IntKind.i64.wrap (d : Int) = (d : Int) := IntWalk.i64_in _ (by omega)
        have hm3 : (3 : Int) < (m : Int) := by omega
        have hm4 : 0 < m := by omega
        have H9 := Lib.hid (fun (q : World) (hc : Cur q g (L + 12 + 2)) (hq : Chg g (g + 1) (w20.alloc (.cells #[.int .i64 0, .int .i64 1, .int .i64 (-1)] 3)) q) => (show (q.cell? ⟨w2.heap.size, 0, none⟩ = some (.slice (some ⟨ga, 0, none⟩) (d + 1) c) ∧ q.cell? ⟨ga, 0, none⟩ = some (.slice (some ⟨gv, 0, none⟩) m cv)) ∧ ((∃ u, q.cell? ⟨gv, 3, none⟩ = some u) ∧ q.frozen? ⟨gv, 3, none⟩ = false) ∧ ∀ x : Int, NtS w (q.setCell ⟨gv, 3, none⟩ (.int .i64 x)) g (L + 12 + 2) w2.heap.size (some ⟨ga, 0, none⟩) (d + 1) c 16 ∧ (q.setCell ⟨gv, 3, none⟩ (.int .i64 x)).cell? ⟨w2.heap.size, 0, none⟩ = some (.slice (some ⟨ga, 0, none⟩) (d + 1) c) ∧ (q.setCell ⟨gv, 3, none⟩ (.int .i64 x)).cell? ⟨ga, 0, none⟩ = some (.slice (some ⟨gv, 0, none⟩) m cv) from
          have n := n9.chg hc hq
          have hr : q.cell? ⟨ga, 0, none⟩ = some (.slice (some ⟨gv, 0, none⟩) m cv) := (World.cell?_of_block (hq.block ga hl9 (by have := n9.d.cells; obtain ⟨ys, ho, _⟩ := this; have := (row_ge ho ga rfl).1; omega))).trans hr9
          ⟨⟨n.tc, hr⟩, n.cell rfl (by omega) hr (by omega), fun x => ⟨n.put hv0 hv1 hv2, (n.put hv0 hv1 hv2).tc, (World.cell?_setCell_other _ _ _ _ (fun e => hv1 (by have := congrArg Addr.block e; show some ga = some gv; rw [show ga = gv from this.symm]))).trans hr⟩⟩))
        go_wp2_with fail
        go_region_held3 (fun w' => w'.cell? ⟨w2.heap.size, 0, none⟩ = some (.slice (some ⟨ga, 0, none⟩) (d + 1) c) ∧ w'.cell? ⟨ga, 0, none⟩ = some (.slice (some ⟨gv, 0, none⟩) m cv)) (first | exact ⟨e0, hcr⟩ | exact q1 | exact q4 | go_keep) ((skip; (go_at_call 83; refine (among_any g _ _ _ _ _ _ (-1) (1) [0, 1, -1] _ (by exact c9) (by omega) (by first | exact o9 | exact o9.drew) (by omega) (by decide) (by decide) (by decide)).mono ?_; rintro e w30 ⟨y, rfl, y0, y1, hc30, hg30⟩; replace hg30 : Chg g (g + 1) (w20.alloc (.cells #[.int .i64 0, .int .i64 1, .int .i64 (-1)] 3)) w30 := (by first | exact hg30 | exact (Chg.of_below (Below.refl _ _).drew).trans hg30); obtain ⟨q1, q2, q3⟩ := H9.out w30 (hc30.mono (by omega)) hg30; obtain ⟨⟨u, hu⟩, hf⟩ := q2; have Q1 := Lib.hid q1; obtain ⟨q5, q4⟩ := q3 y; have N30 := Lib.hid q5; clear q3 q5)))
        have n30 := N30.out
        clear q1 q4 hu hf e0 hcr b9 x9 o9 n9 c9 hr9 hl9 N30
        have e0 := n30.tc
        obtain ⟨p0, f0, r0, hP⟩ := n30.done (by omega)
        have HP := Lib.hid hP
        have lw := n30.size.1
        clear hP n30
        go_wp2
        exact bodyPost_ret (v := .agg #[.slice _ (d + 1) _]) (by simp [results, Try.results71, go_sem, r0]; first | done | exact ⟨rfl, rfl⟩) rfl (HP.out.mono_ (by omega))
      have t0E : (s == 0) = false := by rw [beq_eq_false_iff_ne]; exact t0
      by_cases t1 : s = 1
      · subst t1
        have b9 := below_new w20 (.cells #[.int .i64 0, .int .i64 1] 3)
        have x9 := box_new w20 #[.int .i64 0, .int .i64 1] 3
        have o9 := own_lit [0, 1] x9 (by decide)
        have n9 := (n20.below b9).less (Nat.zero_le _)
        have s9 := n20.size
        have hO := Lib.hid (OwnI.fit o9 (show w.heap.size + 1 ≤ _ by omega))
        obtain ⟨ys, ho, hr⟩ := n9.d.cells
        have HR := Lib.hid hr
        have e0 := n20.tc
        have N9 := Lib.hid n9
        clear hr n9 n20 b9 x9 o9
        obtain ⟨i1, hj, hy0, hy1, hy2⟩ := info_parts Try.infoIntS
        have hsz : w.heap.size + 1 ≤ (w20.alloc (.cells #[.int .i64 0, .int .i64 1] 3)).heap.size := by simp; omega
        go_wp2_with (at_builtin; refine wp_appG (cs := #[.slice (some ⟨w20.heap.size, 0, none⟩) 2 2]) rfl _ _ rfl Try.underlying22 hj hy0 hy1 hy2 rfl (by omega) (by omega) rfl (by simp [Value.oneCell']) (w.heap.size + 1) A (d + 1) c ys rfl ho _ rfl (by simp) (by omega) hsz ?_; intro A8 c8 w8 own8 grow8 _; obtain ⟨n8, t8, f8⟩ := N9.out.more grow8 (DNt.snoc ho HR.out hO.out (Nat.zero_le _) (by decide) grow8 own8); have e0' := n8.tc; obtain ⟨p0, f0, r0, hP⟩ := n8.done (by omega); have HP := Lib.hid hP; have lw := n8.size.1; clear n8 own8 grow8 hP)
        exact bodyPost_ret (v := .agg #[.slice _ (d + 1 + 1) _]) (by simp [results, Try.results71, go_sem, r0]; first | done | exact ⟨rfl, rfl⟩) rfl (HP.out.mono_ (by omega))
      have t1E : (s == 1) = false := by rw [beq_eq_false_iff_ne]; exact t1
      by_cases t2 : s = 2
      · subst t2
        obtain ⟨p0, f0, r0, hP⟩ := n20.quit
        have HP := Lib.hid hP
        have lw := n20.size.1
        clear hP n20
        go_wp2
        exact bodyPost_ret (v := .agg #[.slice none 0 0]) (by simp [results, Try.results71, go_sem, r0]) rfl (HP.out.mono_ (by omega))
      have t2E : (s == 2) = false := by rw [beq_eq_false_iff_ne]; exact t2
      by_cases t3 : s = 3
      · subst t3
        go_wp2_with fail
        go_loopw [65] (fun _ wr => ∃ (A : Option Addr) (k c : Nat), k ≤ 21 ∧ NtS w wr g (L + 14 + 2 * k) w2.heap.size A k c 16) (fun _ wr => 21 - (match wr.cell? ⟨w2.heap.size, 0, none⟩ with | some (.slice _ k _) => k | _ => 0))
        case atStart => exact ⟨A, d + 1, c, by omega, n20.mono (by omega)⟩
        case round =>
          clear n20
          obtain ⟨A, k, c, hk, n21⟩ := hrel
          have e0 := n21.tc
          have hc := n21.c
          have M0 := Lib.hid e0
          have N21 := Lib.hid n21
          have s9 := n21.size
          clear n21
          go_wp2_with fail
          go_region_held3 (fun w' => w'.cell? ⟨w2.heap.size, 0, none⟩ = some (.slice A k c)) (first | exact e0 | exact q0 | go_keep) ((first | (go_at_call 112; refine (pick_any g _ _ _ (by exact hc) (by omega) (by omega)).mono ?_; rintro e w22 ⟨u, rfl, hu0, hu1, hc22, hg22⟩; replace hu1 : u ≤ 1 := (by simpa using hu1); replace hg22 : Chg g (g + 1) wr w22 := (by first | exact hg22 | exact (Chg.of_below (Below.refl _ _).drew).trans hg22); have hw22 : IntKind.i64.wrap (20 + u) = 20 + u := IntWalk.i64_in _ (by omega); have N22 := Lib.hid (N21.out.chg hc22 hg22); have q0 := N22.out.tc; have s22 := N22.out.size) | fail))
          clear N21 e0 hc hc22 hg22
          by_cases hlk : (k : Int) < 20 + u
          · have hd : decide ((k : Int) < 20 + u) = true := by simpa using hlk
            have hk2 : k + 1 ≤ 21 := by omega
            obtain ⟨i1, hj, hy0, hy1, hy2⟩ := info_parts Try.infoIntS
            have hmk : ∀ W : World, (Instr.makeSlice 27 (.int .i64 16) (.int .i64 16)).run Try.prog W = .ok (.slice (some ⟨W.heap.size, 0, none⟩) 16 16) (W.alloc (.cells (madeCells #[.int .i64 0] 16) 3)) := fun W => run_make_row' 27 3 (.int .i64 0) 8 Try.underlying27 Try.infoInt rfl .i64 .i64 16 (by omega) (by omega) W
            have b9 := below_new w22 (.cells (madeCells #[.int .i64 0] 16) 3)
            have o9 := OwnI.of_own (own_made w22 16 (by omega)) (show 16 ≤ 1099511627776 by omega)
            have n9 := N22.out.below b9
            have hO := Lib.hid (OwnI.fit o9 (show w.heap.size + 1 ≤ _ by omega))
            obtain ⟨ys, ho, hr⟩ := n9.d.cells
            have HR := Lib.hid hr
            have N9 := Lib.hid n9
            have hsz : w.heap.size + 1 ≤ (w22.alloc (.cells (madeCells #[.int .i64 0] 16) 3)).heap.size := by simp; omega
            clear hr n9 b9 o9
            go_wp2_with fail
            go_region_law ((refine step_appGd (cs := #[.slice (some ⟨w22.heap.size, 0, none⟩) 16 16]) (by rfl) _ _ (by rfl) Try.underlying22 hj hy0 hy1 hy2 rfl (by omega) (by omega) rfl (by simp [Value.oneCell']) (w.heap.size + 1) A k c ys (by rfl) ho _ (by rfl) (by simp) (by omega) hsz ?_; intro A8 c8 w8 own8 grow8 _; obtain ⟨n8, t8, f8⟩ := N9.out.more grow8 (DNt.snoc ho HR.out hO.out (Nat.le_refl _) (Nat.le_refl _) grow8 own8); have N8 := Lib.hid n8; have m8 := n8.tc; clear n8 own8 grow8))
            all_goals (go_wp2; go_roundw)
            all_goals first | exact ⟨A8, k + 1, c8, hk2, N8.out.mono (by omega)⟩ | (rw [m8, M0.out]; show 21 - (k + 1) < 21 - k; omega)
          · have hd : decide ((k : Int) < 20 + u) = false := by simpa using hlk
            have n22 := N22.out
            clear N22 q0
            have e0 := n22.tc
            obtain ⟨p0, f0, r0, hP⟩ := n22.done (by omega)
            have HP := Lib.hid hP
            have lw := n22.size.1
            clear hP n22
            go_wp2
            exact bodyPost_ret (v := .agg #[.slice _ (k) _]) (by simp [results, Try.results71, go_sem, r0]; first | done | exact ⟨rfl, rfl⟩) rfl (HP.out.mono_ (by omega))
      have t3E : (s == 3) = false := by rw [beq_eq_false_iff_ne]; exact t3
      by_cases t4 : s = 4
      · subst t4
        obtain ⟨ga, gv, m, cv, hA, hcr, hm1, hm2, hv0, hv1, hv2⟩ := n20.row (by omega) (k := d) (by omega)
        try simp only [Option.some.injEq, Addr.mk.injEq, and_true] at hA
        subst hA
        have e0 := n20.tc
        have b9 := below_new w20 (.cells #[.int .i64 6, .int .i64 (-6), .int .i64 5] 3)
        have x9 := box_new w20 #[.int .i64 6, .int .i64 (-6), .int .i64 5] 3
        have o9 := own_lit [6, -6, 5] x9 (by decide)
        have n9 := n20.below b9
        have c9 := n9.c
        have s9 := n20.size
        have lg := n20.g0
        have hr9 : (w20.alloc (.cells #[.int .i64 6, .int .i64 (-6), .int .i64 5] 3)).cell? ⟨ga, d, none⟩ = some (.slice (some ⟨gv, 0, none⟩) m cv) := (b9.cell (block_lt_of_cell hcr)).trans hcr
        have hl9 := block_lt_of_cell hr9
        have hn9 : (0 : Int) ≤ ((d + 1 : Nat) : Int) - 1 := by omega
        have hn8 : IntKind.i64.wrap (((d + 1 : Nat) : Int) - 1) = ((d : Nat) : Int) := by rw [IntWalk.i64_in _ (by omega)]; omega
        have hn7 : (d : Int) < ((d + 1 : Nat) : Int) := by omega
        have hn6 : (0 : Int) ≤ (d : Int) := by omega
        have hn5 : (d : Int) < (d : Int) + 1 := by omega
        have hn4 : IntKind.i64.wrap ((d : Int) + 1 - 1) = (d : Int) := by rw [IntWalk.i64_in _ (by omega)]; omega
        have hn3 : IntKind.i64.wrap (d : Int) = (d : Int) := IntWalk.i64_in _ (by omega)
        have hm3 : (0 : Int) < (m : Int) := by omega
        have hm4 : 0 < m := by omega
        have H9 := Lib.hid (fun (q : World) (hc : Cur q g (L + 12 + 2)) (hq : Chg g (g + 1) (w20.alloc (.cells #[.int .i64 6, .int .i64 (-6), .int .i64 5] 3)) q) => (show (q.cell? ⟨w2.heap.size, 0, none⟩ = some (.slice (some ⟨ga, 0, none⟩) (d + 1) c) ∧ q.cell? ⟨ga, d, none⟩ = some (.slice (some ⟨gv, 0, none⟩) m cv)) ∧ ((∃ u, q.cell? ⟨gv, 0, none⟩ = some u) ∧ q.frozen? ⟨gv, 0, none⟩ = false) ∧ ∀ x : Int, NtS w (q.setCell ⟨gv, 0, none⟩ (.int .i64 x)) g (L + 12 + 2) w2.heap.size (some ⟨ga, 0, none⟩) (d + 1) c 16 ∧ (q.setCell ⟨gv, 0, none⟩ (.int .i64 x)).cell? ⟨w2.heap.size, 0, none⟩ = some (.slice (some ⟨ga, 0, none⟩) (d + 1) c) ∧ (q.setCell ⟨gv, 0, none⟩ (.int .i64 x)).cell? ⟨ga, d, none⟩ = some (.slice (some ⟨gv, 0, none⟩) m cv) from
          have n := n9.chg hc hq
          have hr : q.cell? ⟨ga, d, none⟩ = some (.slice (some ⟨gv, 0, none⟩) m cv) := (World.cell?_of_block (hq.block ga hl9 (by have := n9.d.cells; obtain ⟨ys, ho, _⟩ := this; have := (row_ge ho ga rfl).1; omega))).trans hr9
          ⟨⟨n.tc, hr⟩, n.cell rfl (by omega) hr (by omega), fun x => ⟨n.put hv0 hv1 hv2, (n.put hv0 hv1 hv2).tc, (World.cell?_setCell_other _ _ _ _ (fun e => hv1 (by have := congrArg Addr.block e; show some ga = some gv; rw [show ga = gv from this.symm]))).trans hr⟩⟩))
        go_wp2_with fail
        go_region_held3 (fun w' => w'.cell? ⟨w2.heap.size, 0, none⟩ = some (.slice (some ⟨ga, 0, none⟩) (d + 1) c) ∧ w'.cell? ⟨ga, d, none⟩ = some (.slice (some ⟨gv, 0, none⟩) m cv)) (first | exact ⟨e0, hcr⟩ | exact q1 | exact q4 | go_keep) ((skip; (go_at_call 83; refine (among_any g _ _ _ _ _ _ (-6) (6) [6, -6, 5] _ (by exact c9) (by omega) (by first | exact o9 | exact o9.drew) (by omega) (by decide) (by decide) (by decide)).mono ?_; rintro e w31 ⟨y, rfl, y0, y1, hc31, hg31⟩; replace hg31 : Chg g (g + 1) (w20.alloc (.cells #[.int .i64 6, .int .i64 (-6), .int .i64 5] 3)) w31 := (by first | exact hg31 | exact (Chg.of_below (Below.refl _ _).drew).trans hg31); obtain ⟨q1, q2, q3⟩ := H9.out w31 (hc31.mono (by omega)) hg31; obtain ⟨⟨u, hu⟩, hf⟩ := q2; have Q1 := Lib.hid q1; obtain ⟨q5, q4⟩ := q3 y; have N31 := Lib.hid q5; clear q3 q5)))
        have n31 := N31.out
        clear q1 q4 hu hf e0 hcr b9 x9 o9 n9 c9 hr9 hl9 N31
        have e0 := n31.tc
        obtain ⟨p0, f0, r0, hP⟩ := n31.done (by omega)
        have HP := Lib.hid hP
        have lw := n31.size.1
        clear hP n31
        go_wp2
        exact bodyPost_ret (v := .agg #[.slice _ (d + 1) _]) (by simp [results, Try.results71, go_sem, r0]; first | done | exact ⟨rfl, rfl⟩) rfl (HP.out.mono_ (by omega))
      have t4E : (s == 4) = false := by rw [beq_eq_false_iff_ne]; exact t4
      have e0 := n20.tc
      obtain ⟨p0, f0, r0, hP⟩ := n20.done (by omega)
      have HP := Lib.hid hP
      have lw := n20.size.1
      clear hP n20
      go_wp2
      exact bodyPost_ret (v := .agg #[.slice _ (d + 1) _]) (by simp [results, Try.results71, go_sem, r0]; first | done | exact ⟨rfl, rfl⟩) rfl (HP.out.mono_ (by omega))
    · have hdd : decide ((1 : Int) < ((d + 1 : Nat) : Int)) = false := decide_eq_false (by omega)
      have hc9 := n4.c
      go_wp2_with fail
      refine (pick_any g _ _ _ hc9 (by omega) (by omega)).mono ?_
      rintro e w20 ⟨s, rfl, s0, s1, hc20, hg20⟩
      clear s1 hc9
      have n20 := (n4.chg hc20 hg20).mono (show _ ≤ L + 12 by omega)
      clear hc20 hg20 n4
      by_cases t0 : s = 0
      · subst t0
        obtain ⟨ga, gv, m, cv, hA, hcr, hm1, hm2, hv0, hv1, hv2⟩ := n20.row (by omega) (k := 0) (by omega)
        try simp only [Option.some.injEq, Addr.mk.injEq, and_true] at hA
        subst hA
        have e0 := n20.tc
        have b9 := below_new w20 (.cells #[.int .i64 0, .int .i64 1, .int .i64 (-1)] 3)
        have x9 := box_new w20 #[.int .i64 0, .int .i64 1, .int .i64 (-1)] 3
        have o9 := own_lit [0, 1, -1] x9 (by decide)
        have n9 := n20.below b9
        have c9 := n9.c
        have s9 := n20.size
        have lg := n20.g0
        have hr9 : (w20.alloc (.cells #[.int .i64 0, .int .i64 1, .int .i64 (-1)] 3)).cell? ⟨ga, 0, none⟩ = some (.slice (some ⟨gv, 0, none⟩) m cv) := (b9.cell (block_lt_of_cell hcr)).trans hcr
        have hl9 := block_lt_of_cell hr9
        have hn9 : (0 : Int) ≤ ((d + 1 : Nat) : Int) - 1 := by omega
        have hn8 : IntKind.i64.wrap (((d + 1 : Nat) : Int) - 1) = ((d : Nat) : Int) := by rw [IntWalk.i64_in _ (by omega)]; omega
        have hn7 : (d : Int) < ((d + 1 : Nat) : Int) := by omega
        have hn6 : (0 : Int) ≤ (d : Int) := by omega
        have hn5 : (d : Int) < (d : Int) + 1 := by omega
        have hn4 : IntKind.i64.wrap ((d : Int) + 1 - 1) = (d : Int) := by rw [IntWalk.i64_in _ (by omega)]; omega
        have hn3 : IntKind.i64.wrap (d : Int) = (d : Int) := IntWalk.i64_in _ (by omega)
        have hm3 : (3 : Int) < (m : Int) := by omega
        have hm4 : 0 < m := by omega
        have H9 := Lib.hid (fun (q : World) (hc : Cur q g (L + 12 + 2)) (hq : Chg g (g + 1) (w20.alloc (.cells #[.int .i64 0, .int .i64 1, .int .i64 (-1)] 3)) q) => (show (q.cell? ⟨w2.heap.size, 0, none⟩ = some (.slice (some ⟨ga, 0, none⟩) (d + 1) c) ∧ q.cell? ⟨ga, 0, none⟩ = some (.slice (some ⟨gv, 0, none⟩) m cv)) ∧ ((∃ u, q.cell? ⟨gv, 3, none⟩ = some u) ∧ q.frozen? ⟨gv, 3, none⟩ = false) ∧ ∀ x : Int, NtS w (q.setCell ⟨gv, 3, none⟩ (.int .i64 x)) g (L + 12 + 2) w2.heap.size (some ⟨ga, 0, none⟩) (d + 1) c 16 ∧ (q.setCell ⟨gv, 3, none⟩ (.int .i64 x)).cell? ⟨w2.heap.size, 0, none⟩ = some (.slice (some ⟨ga, 0, none⟩) (d + 1) c) ∧ (q.setCell ⟨gv, 3, none⟩ (.int .i64 x)).cell? ⟨ga, 0, none⟩ = some (.slice (some ⟨gv, 0, none⟩) m cv) from
          have n := n9.chg hc hq
          have hr : q.cell? ⟨ga, 0, none⟩ = some (.slice (some ⟨gv, 0, none⟩) m cv) := (World.cell?_of_block (hq.block ga hl9 (by have := n9.d.cells; obtain ⟨ys, ho, _⟩ := this; have := (row_ge ho ga rfl).1; omega))).trans hr9
          ⟨⟨n.tc, hr⟩, n.cell rfl (by omega) hr (by omega), fun x => ⟨n.put hv0 hv1 hv2, (n.put hv0 hv1 hv2).tc, (World.cell?_setCell_other _ _ _ _ (fun e => hv1 (by have := congrArg Addr.block e; show some ga = some gv; rw [show ga = gv from this.symm]))).trans hr⟩⟩))
        go_wp2_with fail
        go_region_held3 (fun w' => w'.cell? ⟨w2.heap.size, 0, none⟩ = some (.slice (some ⟨ga, 0, none⟩) (d + 1) c) ∧ w'.cell? ⟨ga, 0, none⟩ = some (.slice (some ⟨gv, 0, none⟩) m cv)) (first | exact ⟨e0, hcr⟩ | exact q1 | exact q4 | go_keep) ((skip; (go_at_call 83; refine (among_any g _ _ _ _ _ _ (-1) (1) [0, 1, -1] _ (by exact c9) (by omega) (by first | exact o9 | exact o9.drew) (by omega) (by decide) (by decide) (by decide)).mono ?_; rintro e w30 ⟨y, rfl, y0, y1, hc30, hg30⟩; replace hg30 : Chg g (g + 1) (w20.alloc (.cells #[.int .i64 0, .int .i64 1, .int .i64 (-1)] 3)) w30 := (by first | exact hg30 | exact (Chg.of_below (Below.refl _ _).drew).trans hg30); obtain ⟨q1, q2, q3⟩ := H9.out w30 (hc30.mono (by omega)) hg30; obtain ⟨⟨u, hu⟩, hf⟩ := q2; have Q1 := Lib.hid q1; obtain ⟨q5, q4⟩ := q3 y; have N30 := Lib.hid q5; clear q3 q5)))
        have n30 := N30.out
        clear q1 q4 hu hf e0 hcr b9 x9 o9 n9 c9 hr9 hl9 N30
        have e0 := n30.tc
        obtain ⟨p0, f0, r0, hP⟩ := n30.done (by omega)
        have HP := Lib.hid hP
        have lw := n30.size.1
        clear hP n30
        go_wp2
        exact bodyPost_ret (v := .agg #[.slice _ (d + 1) _]) (by simp [results, Try.results71, go_sem, r0]; first | done | exact ⟨rfl, rfl⟩) rfl (HP.out.mono_ (by omega))
      have t0E : (s == 0) = false := by rw [beq_eq_false_iff_ne]; exact t0
      by_cases t1 : s = 1
      · subst t1
        have b9 := below_new w20 (.cells #[.int .i64 0, .int .i64 1] 3)
        have x9 := box_new w20 #[.int .i64 0, .int .i64 1] 3
        have o9 := own_lit [0, 1] x9 (by decide)
        have n9 := (n20.below b9).less (Nat.zero_le _)
        have s9 := n20.size
        have hO := Lib.hid (OwnI.fit o9 (show w.heap.size + 1 ≤ _ by omega))
        obtain ⟨ys, ho, hr⟩ := n9.d.cells
        have HR := Lib.hid hr
        have e0 := n20.tc
        have N9 := Lib.hid n9
        clear hr n9 n20 b9 x9 o9
        obtain ⟨i1, hj, hy0, hy1, hy2⟩ := info_parts Try.infoIntS
        have hsz : w.heap.size + 1 ≤ (w20.alloc (.cells #[.int .i64 0, .int .i64 1] 3)).heap.size := by simp; omega
        go_wp2_with (at_builtin; refine wp_appG (cs := #[.slice (some ⟨w20.heap.size, 0, none⟩) 2 2]) rfl _ _ rfl Try.underlying22 hj hy0 hy1 hy2 rfl (by omega) (by omega) rfl (by simp [Value.oneCell']) (w.heap.size + 1) A (d + 1) c ys rfl ho _ rfl (by simp) (by omega) hsz ?_; intro A8 c8 w8 own8 grow8 _; obtain ⟨n8, t8, f8⟩ := N9.out.more grow8 (DNt.snoc ho HR.out hO.out (Nat.zero_le _) (by decide) grow8 own8); have e0' := n8.tc; obtain ⟨p0, f0, r0, hP⟩ := n8.done (by omega); have HP := Lib.hid hP; have lw := n8.size.1; clear n8 own8 grow8 hP)
        exact bodyPost_ret (v := .agg #[.slice _ (d + 1 + 1) _]) (by simp [results, Try.results71, go_sem, r0]; first | done | exact ⟨rfl, rfl⟩) rfl (HP.out.mono_ (by omega))
      have t1E : (s == 1) = false := by rw [beq_eq_false_iff_ne]; exact t1
      by_cases t2 : s = 2
      · subst t2
        obtain ⟨p0, f0, r0, hP⟩ := n20.quit
        have HP := Lib.hid hP
        have lw := n20.size.1
        clear hP n20
        go_wp2
        exact bodyPost_ret (v := .agg #[.slice none 0 0]) (by simp [results, Try.results71, go_sem, r0]) rfl (HP.out.mono_ (by omega))
      have t2E : (s == 2) = false := by rw [beq_eq_false_iff_ne]; exact t2
      by_cases t3 : s = 3
      · subst t3
        go_wp2_with fail
        go_loopw [65] (fun _ wr => ∃ (A : Option Addr) (k c : Nat), k ≤ 21 ∧ NtS w wr g (L + 14 + 2 * k) w2.heap.size A k c 16) (fun _ wr => 21 - (match wr.cell? ⟨w2.heap.size, 0, none⟩ with | some (.slice _ k _) => k | _ => 0))
        case atStart => exact ⟨A, d + 1, c, by omega, n20.mono (by omega)⟩
        case round =>
          clear n20
          obtain ⟨A, k, c, hk, n21⟩ := hrel
          have e0 := n21.tc
          have hc := n21.c
          have M0 := Lib.hid e0
          have N21 := Lib.hid n21
          have s9 := n21.size
          clear n21
          go_wp2_with fail
          go_region_held3 (fun w' => w'.cell? ⟨w2.heap.size, 0, none⟩ = some (.slice A k c)) (first | exact e0 | exact q0 | go_keep) ((first | (go_at_call 112; refine (pick_any g _ _ _ (by exact hc) (by omega) (by omega)).mono ?_; rintro e w22 ⟨u, rfl, hu0, hu1, hc22, hg22⟩; replace hu1 : u ≤ 1 := (by simpa using hu1); replace hg22 : Chg g (g + 1) wr w22 := (by first | exact hg22 | exact (Chg.of_below (Below.refl _ _).drew).trans hg22); have hw22 : IntKind.i64.wrap (20 + u) = 20 + u := IntWalk.i64_in _ (by omega); have N22 := Lib.hid (N21.out.chg hc22 hg22); have q0 := N22.out.tc; have s22 := N22.out.size) | fail))
          clear N21 e0 hc hc22 hg22
          by_cases hlk : (k : Int) < 20 + u
          · have hd : decide ((k : Int) < 20 + u) = true := by simpa using hlk
            have hk2 : k + 1 ≤ 21 := by omega
            obtain ⟨i1, hj, hy0, hy1, hy2⟩ := info_parts Try.infoIntS
            have hmk : ∀ W : World, (Instr.makeSlice 27 (.int .i64 16) (.int .i64 16)).run Try.prog W = .ok (.slice (some ⟨W.heap.size, 0, none⟩) 16 16) (W.alloc (.cells (madeCells #[.int .i64 0] 16) 3)) := fun W => run_make_row' 27 3 (.int .i64 0) 8 Try.underlying27 Try.infoInt rfl .i64 .i64 16 (by omega) (by omega) W
            have b9 := below_new w22 (.cells (madeCells #[.int .i64 0] 16) 3)
            have o9 := OwnI.of_own (own_made w22 16 (by omega)) (show 16 ≤ 1099511627776 by omega)
            have n9 := N22.out.below b9
            have hO := Lib.hid (OwnI.fit o9 (show w.heap.size + 1 ≤ _ by omega))
            obtain ⟨ys, ho, hr⟩ := n9.d.cells
            have HR := Lib.hid hr
            have N9 := Lib.hid n9
            have hsz : w.heap.size + 1 ≤ (w22.alloc (.cells (madeCells #[.int .i64 0] 16) 3)).heap.size := by simp; omega
            clear hr n9 b9 o9
            go_wp2_with fail
            go_region_law ((refine step_appGd (cs := #[.slice (some ⟨w22.heap.size, 0, none⟩) 16 16]) (by rfl) _ _ (by rfl) Try.underlying22 hj hy0 hy1 hy2 rfl (by omega) (by omega) rfl (by simp [Value.oneCell']) (w.heap.size + 1) A k c ys (by rfl) ho _ (by rfl) (by simp) (by omega) hsz ?_; intro A8 c8 w8 own8 grow8 _; obtain ⟨n8, t8, f8⟩ := N9.out.more grow8 (DNt.snoc ho HR.out hO.out (Nat.le_refl _) (Nat.le_refl _) grow8 own8); have N8 := Lib.hid n8; have m8 := n8.tc; clear n8 own8 grow8))
            all_goals (go_wp2; go_roundw)
            all_goals first | exact ⟨A8, k + 1, c8, hk2, N8.out.mono (by omega)⟩ | (rw [m8, M0.out]; show 21 - (k + 1) < 21 - k; omega)
          · have hd : decide ((k : Int) < 20 + u) = false := by simpa using hlk
            have n22 := N22.out
            clear N22 q0
            have e0 := n22.tc
            obtain ⟨p0, f0, r0, hP⟩ := n22.done (by omega)
            have HP := Lib.hid hP
            have lw := n22.size.1
            clear hP n22
            go_wp2
            exact bodyPost_ret (v := .agg #[.slice _ (k) _]) (by simp [results, Try.results71, go_sem, r0]; first | done | exact ⟨rfl, rfl⟩) rfl (HP.out.mono_ (by omega))
      have t3E : (s == 3) = false := by rw [beq_eq_false_iff_ne]; exact t3
      by_cases t4 : s = 4
      · subst t4
        obtain ⟨ga, gv, m, cv, hA, hcr, hm1, hm2, hv0, hv1, hv2⟩ := n20.row (by omega) (k := d) (by omega)
        try simp only [Option.some.injEq, Addr.mk.injEq, and_true] at hA
        subst hA
        have e0 := n20.tc
        have b9 := below_new w20 (.cells #[.int .i64 6, .int .i64 (-6), .int .i64 5] 3)
        have x9 := box_new w20 #[.int .i64 6, .int .i64 (-6), .int .i64 5] 3
        have o9 := own_lit [6, -6, 5] x9 (by decide)
        have n9 := n20.below b9
        have c9 := n9.c
        have s9 := n20.size
        have lg := n20.g0
        have hr9 : (w20.alloc (.cells #[.int .i64 6, .int .i64 (-6), .int .i64 5] 3)).cell? ⟨ga, d, none⟩ = some (.slice (some ⟨gv, 0, none⟩) m cv) := (b9.cell (block_lt_of_cell hcr)).trans hcr
        have hl9 := block_lt_of_cell hr9
        have hn9 : (0 : Int) ≤ ((d + 1 : Nat) : Int) - 1 := by omega
        have hn8 : IntKind.i64.wrap (((d + 1 : Nat) : Int) - 1) = ((d : Nat) : Int) := by rw [IntWalk.i64_in _ (by omega)]; omega
        have hn7 : (d : Int) < ((d + 1 : Nat) : Int) := by omega
        have hn6 : (0 : Int) ≤ (d : Int) := by omega
        have hn5 : (d : Int) < (d : Int) + 1 := by omega
        have hn4 : IntKind.i64.wrap ((d : Int) + 1 - 1) = (d : Int) := by rw [IntWalk.i64_in _ (by omega)]; omega
        have hn3 : IntKind.i64.wrap (d : Int) = (d : Int) := IntWalk.i64_in _ (by omega)
        have hm3 : (0 : Int) < (m : Int) := by omega
        have hm4 : 0 < m := by omega
        have H9 := Lib.hid (fun (q : World) (hc : Cur q g (L + 12 + 2)) (hq : Chg g (g + 1) (w20.alloc (.cells #[.int .i64 6, .int .i64 (-6), .int .i64 5] 3)) q) => (show (q.cell? ⟨w2.heap.size, 0, none⟩ = some (.slice (some ⟨ga, 0, none⟩) (d + 1) c) ∧ q.cell? ⟨ga, d, none⟩ = some (.slice (some ⟨gv, 0, none⟩) m cv)) ∧ ((∃ u, q.cell? ⟨gv, 0, none⟩ = some u) ∧ q.frozen? ⟨gv, 0, none⟩ = false) ∧ ∀ x : Int, NtS w (q.setCell ⟨gv, 0, none⟩ (.int .i64 x)) g (L + 12 + 2) w2.heap.size (some ⟨ga, 0, none⟩) (d + 1) c 16 ∧ (q.setCell ⟨gv, 0, none⟩ (.int .i64 x)).cell? ⟨w2.heap.size, 0, none⟩ = some (.slice (some ⟨ga, 0, none⟩) (d + 1) c) ∧ (q.setCell ⟨gv, 0, none⟩ (.int .i64 x)).cell? ⟨ga, d, none⟩ = some (.slice (some ⟨gv, 0, none⟩) m cv) from
          have n := n9.chg hc hq
          have hr : q.cell? ⟨ga, d, none⟩ = some (.slice (some ⟨gv, 0, none⟩) m cv) := (World.cell?_of_block (hq.block ga hl9 (by have := n9.d.cells; obtain ⟨ys, ho, _⟩ := this; have := (row_ge ho ga rfl).1; omega))).trans hr9
          ⟨⟨n.tc, hr⟩, n.cell rfl (by omega) hr (by omega), fun x => ⟨n.put hv0 hv1 hv2, (n.put hv0 hv1 hv2).tc, (World.cell?_setCell_other _ _ _ _ (fun e => hv1 (by have := congrArg Addr.block e; show some ga = some gv; rw [show ga = gv from this.symm]))).trans hr⟩⟩))
        go_wp2_with fail
        go_region_held3 (fun w' => w'.cell? ⟨w2.heap.size, 0, none⟩ = some (.slice (some ⟨ga, 0, none⟩) (d + 1) c) ∧ w'.cell? ⟨ga, d, none⟩ = some (.slice (some ⟨gv, 0, none⟩) m cv)) (first | exact ⟨e0, hcr⟩ | exact q1 | exact q4 | go_keep) ((skip; (go_at_call 83; refine (among_any g _ _ _ _ _ _ (-6) (6) [6, -6, 5] _ (by exact c9) (by omega) (by first | exact o9 | exact o9.drew) (by omega) (by decide) (by decide) (by decide)).mono ?_; rintro e w31 ⟨y, rfl, y0, y1, hc31, hg31⟩; replace hg31 : Chg g (g + 1) (w20.alloc (.cells #[.int .i64 6, .int .i64 (-6), .int .i64 5] 3)) w31 := (by first | exact hg31 | exact (Chg.of_below (Below.refl _ _).drew).trans hg31); obtain ⟨q1, q2, q3⟩ := H9.out w31 (hc31.mono (by omega)) hg31; obtain ⟨⟨u, hu⟩, hf⟩ := q2; have Q1 := Lib.hid q1; obtain ⟨q5, q4⟩ := q3 y; have N31 := Lib.hid q5; clear q3 q5)))
        have n31 := N31.out
        clear q1 q4 hu hf e0 hcr b9 x9 o9 n9 c9 hr9 hl9 N31
        have e0 := n31.tc
        obtain ⟨p0, f0, r0, hP⟩ := n31.done (by omega)
        have HP := Lib.hid hP
        have lw := n31.size.1
        clear hP n31
        go_wp2
        exact bodyPost_ret (v := .agg #[.slice _ (d + 1) _]) (by simp [results, Try.results71, go_sem, r0]; first | done | exact ⟨rfl, rfl⟩) rfl (HP.out.mono_ (by omega))
      have t4E : (s == 4) = false := by rw [beq_eq_false_iff_ne]; exact t4
      have e0 := n20.tc
      obtain ⟨p0, f0, r0, hP⟩ := n20.done (by omega)
      have HP := Lib.hid hP
      have lw := n20.size.1
      clear hP n20
      go_wp2
      exact bodyPost_ret (v := .agg #[.slice _ (d + 1) _]) (by simp [results, Try.results71, go_sem, r0]; first | done | exact ⟨rfl, rfl⟩) rfl (HP.out.mono_ (by omega))
end Go.Proofs.Ytgeilnkglbcmeaa
