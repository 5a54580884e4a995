/- Several small texts in one: DgN, DgP, DgQ. -/
import Derived.Test.YtfanpbfmnckmnaaGreatYt
namespace Go.Proofs.YtfanpbfmnckmnaaGreat

section
open Go.RowKit

section
variable {w w' : World} {A E : Option Addr} {n c lo lo2 sz b e ce : Nat} {ys zs : List Value} {T0 T1 T : TypeId} {cs : Array Value}
theorem row_ne_box (ho : w.ownsRow lo T0 sz (.slice A n c) n ys) (hk : w.heap[b]? = some (.cells cs T (0, 0))) (hT : T ≠ T0) : rowOf A ≠ some b := by
  intro e
  rcases ho.2 with ⟨h0, _⟩ | ⟨g', cap, cur, hv, _, hg, _⟩
  · injection h0 with h0; subst h0; cases e
  · injection hv with hv
    subst hv
    simp only [rowOf, Option.some.injEq] at e
    subst e
    rw [hg] at hk
    injection hk with hk
    injection hk with _ ht
    exact hT ht.symm
theorem row_ne_row {sz2 : Nat} (ho : w.ownsRow lo T0 sz (.slice A n c) n ys) (hp : w.ownsRow lo2 T1 sz2 (.slice E e ce) e zs) (hT : T0 ≠ T1) {r : Nat} (h : rowOf A = some r) : rowOf E ≠ some r := by
  rcases ho.2 with ⟨h0, _⟩ | ⟨g', cap, cur, hv, _, hg, _⟩
  · injection h0 with h0; subst h0; cases h
  · injection hv with hv
    subst hv
    simp only [rowOf, Option.some.injEq] at h
    subst h
    exact row_ne_box hp hg hT
theorem DVr.keepB {vs : List (ByteArray × Int)} (h : DVr w lo A n c vs) (hb : w.heap[b]? = some (.cells cs T (0, 0))) (hT : T ≠ 133) (hw : ∀ k, k < w.heap.size → k ≠ b → w'.heap[k]? = w.heap[k]?) : DVr w' lo A n c vs :=
  ⟨row_keep h.own fun k _ hA hk => hw k hk (fun e => row_ne_box h.own hb hT (by rw [hA, e])), h.bd⟩
theorem DVr.far {vs : List (ByteArray × Int)} (h : DVr w lo A n c vs) (hp : w.ownsRow lo2 56 4 (.slice E e ce) e zs) (hg : w.grownBy w' (rowOf E)) : DVr w' lo A n c vs :=
  ⟨row_keep h.own fun k _ hA hk => hg.block k hk (fun e => row_ne_row h.own hp (by decide) hA e.symm), h.bd⟩
theorem DRq.keepB {G : RecD → Prop} (h : DRq G w lo A n c) (hb : w.heap[b]? = some (.cells cs T (0, 0))) (hT : T ≠ 135) (hT2 : T ≠ 3) (hw : ∀ k, k < w.heap.size → k ≠ b → w'.heap[k]? = w.heap[k]?) (hz : w.heap.size ≤ w'.heap.size) : DRq G w' lo A n c := by
  obtain ⟨ys, h1, h2⟩ := h.cells
  refine ⟨⟨ys, row_keep h1 fun k _ hA hk => hw k hk (fun e => row_ne_box h1 hb hT (by rw [hA, e])), fun j hj => ?_⟩⟩
  obtain ⟨x, y, V, m, cv, xs, e0, e1, e2, hv, hm⟩ := h2 j hj
  exact ⟨x, y, V, m, cv, xs, e0, e1, e2, hv.keepB hb hT2 hw hz, hm⟩
theorem OwnI.farT {V : Option Addr} {m cv : Nat} {xs : List Int} (h : OwnI w lo w.heap.size V m cv xs) (hp : w.ownsRow lo2 56 4 (.slice E e ce) e zs) (hg : w.grownBy w' (rowOf E)) : OwnI w' lo w'.heap.size V m cv xs :=
  OwnI.of_own (h.own.far hg fun q hA => row_ne2 h.own hp (by decide) (by rw [hA]; rfl)) h.small
theorem DRq.far {G : RecD → Prop} (h : DRq G w lo A n c) (hp : w.ownsRow lo2 56 4 (.slice E e ce) e zs) (hg : w.grownBy w' (rowOf E)) : DRq G w' lo A n c := by
  obtain ⟨ys, h1, h2⟩ := h.cells
  refine ⟨⟨ys, row_keep h1 fun k _ hA hk => hg.block k hk (fun e => row_ne_row h1 hp (by decide) hA e.symm), fun j hj => ?_⟩⟩
  obtain ⟨x, y, V, m, cv, xs, e0, e1, e2, hv, hm⟩ := h2 j hj
  exact ⟨x, y, V, m, cv, xs, e0, e1, e2, hv.farT hp hg, hm⟩
theorem DRq.weak {G : RecD → Prop} (h : DRq G w lo A n c) : DRq (fun _ => True) w lo A n c := by
  obtain ⟨ys, h1, h2⟩ := h.cells
  refine ⟨⟨ys, h1, fun j hj => ?_⟩⟩
  obtain ⟨x, y, V, m, cv, xs, e0, e1, e2, hv, hm, _⟩ := h2 j hj
  exact ⟨x, y, V, m, cv, xs, e0, e1, e2, hv, hm, trivial⟩
end
section
variable {w0 w w' : World} {g L L' b r lo : Nat} {P A Z : Option Addr} {pn pc n c m cz : Nat} {ps : List Int} {vs : List (ByteArray × Int)} {Y : Option Addr} {p cp : Nat} {ts : List TabD} {Q : Option Addr} {q cq : Nat} {us : List TabD} {x y : LosD} {fl : Int} {k : Nat} {cs : Array Value} {T : TypeId}
theorem SurV.keepB (h : SurV w lo P A Z pn pc n c m cz ps vs) (hb : w.heap[k]? = some (.cells cs T (0, 0))) (h1 : T ≠ 3) (h2 : T ≠ 133) (h3 : T ≠ 135) (hw : ∀ j, j < w.heap.size → j ≠ k → w'.heap[j]? = w.heap[j]?) (hz : w.heap.size ≤ w'.heap.size) : SurV w' lo P A Z pn pc n c m cz ps vs :=
  ⟨h.g, h.p.keepB hb h1 hw hz, h.v.keepB hb h2 hw, h.s, h.d.keepB hb h3 h1 hw hz, h.hp, h.hn, h.hm⟩
/-- A server as drawn: what holds it. -/
structure SvO (w : World) (lo : Nat) (P A Z : Option Addr) (pn pc n c m cz : Nat) (ps : List Int) (vs : List (ByteArray × Int)) (Y : Option Addr) (p cp : Nat) (ts : List TabD) (Q : Option Addr) (q cq : Nat) (us : List TabD) (x y : LosD) (fl : Int) : Prop where
  op : OwnI w lo w.heap.size P pn pc ps
  ov : DVr w lo A n c vs
  os : SchV vs
  od : DRq (fun _ => True) w lo Z m cz
  pl : DTl w lo Y p cp ts
  aq : DTl w lo Q q cq us
  hp : pn ≤ 31
  hn : 1 ≤ n ∧ n ≤ 3
  hm : m ≤ 22
  hpl : p ≤ 100
  haq : q ≤ 100
theorem SvO.chg (h : SvO w lo P A Z pn pc n c m cz ps vs Y p cp ts Q q cq us x y fl) (hx : Chg g (g + 1) w w') (hg : g < lo) : SvO w' lo P A Z pn pc n c m cz ps vs Y p cp ts Q q cq us x y fl :=
  ⟨h.op.chgT hx hg, h.ov.chg hx hg, h.os, h.od.chg hx hg, h.pl.chg hx hg, h.aq.chg hx hg, h.hp, h.hn, h.hm, h.hpl, h.haq⟩
theorem SvO.below (h : SvO w lo P A Z pn pc n c m cz ps vs Y p cp ts Q q cq us x y fl) (hb : Below w.heap.size w w') : SvO w' lo P A Z pn pc n c m cz ps vs Y p cp ts Q q cq us x y fl :=
  ⟨h.op.belT hb, h.ov.below hb, h.os, h.od.below hb, h.pl.below hb, h.aq.below hb, h.hp, h.hn, h.hm, h.hpl, h.haq⟩
theorem SvO.mono {lo' : Nat} (h : SvO w lo P A Z pn pc n c m cz ps vs Y p cp ts Q q cq us x y fl) (hl : lo' ≤ lo) : SvO w lo' P A Z pn pc n c m cz ps vs Y p cp ts Q q cq us x y fl :=
  ⟨⟨h.op.own.mono hl, h.op.top, h.op.small⟩, h.ov.mono hl, h.os, h.od.mono hl, h.pl.mono hl, h.aq.mono hl, h.hp, h.hn, h.hm, h.hpl, h.haq⟩
theorem SvO.svR (h : SvO w lo P A Z pn pc n c m cz ps vs Y p cp ts Q q cq us x y fl) : ∃ rs, SvR w P A Z Y Q pn n c m p cp q cq ⟨ps, vs, rs, ts, x, y, fl, us⟩ := by
  obtain ⟨rs, hd, _⟩ := h.od.recs (by have := h.hm; omega)
  exact ⟨rs, ⟨⟨h.op.ints, by have := h.hp; omega⟩, h.ov.sch (by have := h.hn; omega), hd⟩, h.pl.tabs (by have := h.hpl; omega), h.aq.tabs (by have := h.haq; omega), h.pl.cap, h.aq.cap⟩
/-- A drawn server. -/
def DSv (g L : Nat) (w : World) (e : Ending) (w' : World) : Prop := ∃ (P A Z : Option Addr) (pn pc n c m cz : Nat) (ps : List Int) (vs : List (ByteArray × Int)) (Y : Option Addr) (p cp : Nat) (ts : List TabD) (Q : Option Addr) (q cq : Nat) (us : List TabD) (x y : LosD) (fl : Int), e = .returned (.agg #[.slice P pn pc, .slice A n c, .slice Z m cz, .slice Y p cp, .int .i64 x.a, .int .i64 x.b, .int .i64 x.c, .int .i64 x.d, .int .i64 y.a, .int .i64 y.b, .int .i64 y.c, .int .i64 y.d, .int .i64 fl, .slice Q q cq]) ∧ SvO w' w.heap.size P A Z pn pc n c m cz ps vs Y p cp ts Q q cq us x y fl ∧ Cur w' g L ∧ Chg g (g + 1) w w'
/-- A drawn server while it is asked: its box at b, the result's box at r. -/
structure SvU (w0 w : World) (g L b r : Nat) (P A Z : Option Addr) (pn pc n c m cz : Nat) (ps : List Int) (vs : List (ByteArray × Int)) (Y : Option Addr) (p cp : Nat) (ts : List TabD) (Q : Option Addr) (q cq : Nat) (us : List TabD) (x y : LosD) (fl : Int) : Prop where
  st : SvS w0 w g L b P A Z pn pc n c m cz Y p cp ts Q q cq us x y fl
  sv : SurV w w0.heap.size P A Z pn pc n c m cz ps vs
  rx : w.heap[r]? = some (.cells #[.slice none 0 0, .slice none 0 0, .slice none 0 0, .slice none 0 0, .int .i64 0, .int .i64 0, .int .i64 0, .int .i64 0, .int .i64 0, .int .i64 0, .int .i64 0, .int .i64 0, .int .i64 0, .slice none 0 0] 44 (0, 0))
  rb : r ≠ b ∧ w0.heap.size ≤ r
  hx : LosOk x
  hy : LosOk y
  ok : ∀ j, j < q → tabB ps vs (tX us j) = true
  hpl : p ≤ 8
  haq : q ≤ 30
theorem SvU.chg (h : SvU w0 w g L b r P A Z pn pc n c m cz ps vs Y p cp ts Q q cq us x y fl) (hc : Cur w' g L') (hx : Chg g (g + 1) w w') : SvU w0 w' g L' b r P A Z pn pc n c m cz ps vs Y p cp ts Q q cq us x y fl :=
  ⟨h.st.chg hc hx, h.sv.chg hx h.st.ab.2, box_chg h.rx hx (by have := h.rb; have := h.st.ab; omega), h.rb, h.hx, h.hy, h.ok, h.hpl, h.haq⟩
theorem SvU.below (h : SvU w0 w g L b r P A Z pn pc n c m cz ps vs Y p cp ts Q q cq us x y fl) (hb : Below w.heap.size w w') : SvU w0 w' g L b r P A Z pn pc n c m cz ps vs Y p cp ts Q q cq us x y fl :=
  ⟨h.st.below hb, h.sv.below hb, bxb h.rx hb, h.rb, h.hx, h.hy, h.ok, h.hpl, h.haq⟩
theorem SvU.mono (h : SvU w0 w g L b r P A Z pn pc n c m cz ps vs Y p cp ts Q q cq us x y fl) (hl : L ≤ L') : SvU w0 w g L' b r P A Z pn pc n c m cz ps vs Y p cp ts Q q cq us x y fl := ⟨h.st.mono hl, h.sv, h.rx, h.rb, h.hx, h.hy, h.ok, h.hpl, h.haq⟩
theorem SurV.ok (h : SurV w lo P A Z pn pc n c m cz ps vs) : ∃ rs, (∀ (D : SvD), D.par = ps → D.vs = vs → D.rs = rs → SurOk D ∧ SurR w P A Z pn n c m D) := by
  have hl := h.p.own.len
  have hv := h.v.len
  have h1 := h.hn
  have h2 := h.hp
  have h3 := h.hm
  obtain ⟨rs, hd, hr⟩ := h.d.recs (by omega)
  refine ⟨rs, fun D e1 e2 e3 => ⟨⟨by rw [e1]; exact h.g, by rw [e2]; exact h.s.ok (by omega) (by omega), ?_⟩, ⟨?_, ?_, ?_⟩⟩⟩
  · rw [e1, e2, e3]; exact rec_sur h.g hd.len (by omega) hr
  · rw [e1]; exact ⟨h.p.ints, by omega⟩
  · rw [e2]; exact h.v.sch (by omega)
  · rw [e3]; exact hd
/-- A query: other answered tables. -/
theorem SvU.asked {Q2 : Option Addr} {q2 cq2 : Nat} {us2 : List TabD} (h : SvU w0 w g L b r P A Z pn pc n c m cz ps vs Y p cp ts Q q cq us x y fl) (hQ : DTl w w0.heap.size Q2 q2 cq2 us2) (hap : ∀ r, rowOf Y = some r → rowOf Q2 ≠ some r) (hok : ∀ j, j < q2 → tabB ps vs (tX us2 j) = true) (hq2 : q2 ≤ 30) :
    SvU w0 (((((((((((((((w).setCell ⟨b, 0, none⟩ (.slice P pn pc)).setCell ⟨b, 1, none⟩ (.slice A n c)).setCell ⟨b, 2, none⟩ (.slice Z m cz)).setCell ⟨b, 3, none⟩ (.slice Y p cp)).setCell ⟨b, 4, none⟩ (.int .i64 x.a)).setCell ⟨b, 5, none⟩ (.int .i64 x.b)).setCell ⟨b, 6, none⟩ (.int .i64 x.c)).setCell ⟨b, 7, none⟩ (.int .i64 x.d)).setCell ⟨b, 8, none⟩ (.int .i64 y.a)).setCell ⟨b, 9, none⟩ (.int .i64 y.b)).setCell ⟨b, 10, none⟩ (.int .i64 y.c)).setCell ⟨b, 11, none⟩ (.int .i64 y.d)).setCell ⟨b, 12, none⟩ (.int .i64 fl)).setCell ⟨b, 13, none⟩ (.slice Q2 q2 cq2)) g L b r P A Z pn pc n c m cz ps vs Y p cp ts Q2 q2 cq2 us2 x y fl := by
  rw [← puts14]
  have hn := fun k (hk : k ≠ b) => puts_ne (g := b) [(0, .slice P pn pc), (1, .slice A n c), (2, .slice Z m cz), (3, .slice Y p cp), (4, .int .i64 x.a), (5, .int .i64 x.b), (6, .int .i64 x.c), (7, .int .i64 x.d), (8, .int .i64 y.a), (9, .int .i64 y.b), (10, .int .i64 y.c), (11, .int .i64 y.d), (12, .int .i64 fl), (13, .slice Q2 q2 cq2)] w hk
  have hz := puts_size (g := b) [(0, .slice P pn pc), (1, .slice A n c), (2, .slice Z m cz), (3, .slice Y p cp), (4, .int .i64 x.a), (5, .int .i64 x.b), (6, .int .i64 x.c), (7, .int .i64 x.d), (8, .int .i64 y.a), (9, .int .i64 y.b), (10, .int .i64 y.c), (11, .int .i64 y.d), (12, .int .i64 fl), (13, .slice Q2 q2 cq2)] w
  have hb := h.st.ab
  exact ⟨⟨h.st.cu.keep fun k hk => hn k (by omega), puts_new _ _ h.st.ch hb.1, h.st.pl.off h.st.bx (by decide) (by decide) hn hz, hQ.off h.st.bx (by decide) (by decide) hn hz, hap, fill14 h.st.bx, hb⟩,
    h.sv.keepB h.st.bx (by decide) (by decide) (by decide) (fun j _ hj => hn j hj) (Nat.le_of_eq hz.symm), (hn r h.rb.1).trans h.rx, h.rb, h.hx, h.hy, hok, h.hpl, hq2⟩
end
end

section
open Go.RowKit

section
variable {w w' : World} {A A' : Option Addr} {n c m c' lo : Nat} {ts us : List TabD}
theorem tX_left {j : Nat} (h : j < ts.length) : tX (ts ++ us) j = tX ts j := by
  unfold tX
  rw [List.getElem?_append_left h]
theorem tX_right {j : Nat} (h : ts.length ≤ j) : tX (ts ++ us) j = tX us (j - ts.length) := by
  unfold tX
  rw [List.getElem?_append_right h]
theorem DTl.same_row {ys zs : List Value} (ho : w.ownsRow lo 56 4 (.slice A n c) n ys) (hy : w.ownsRow lo 56 4 (.slice A n c) n zs) : ys = zs := by
  have nil : n = 0 → ys = zs := fun h1 => by
    have l1 := ho.1; have l2 := hy.1
    rw [h1] at l1 l2
    exact (List.eq_nil_of_length_eq_zero (l1.trans (by simp))).trans (List.eq_nil_of_length_eq_zero (l2.trans (by simp))).symm
  rcases ho.2 with ⟨h0, h1⟩ | ⟨g, cap, cur, e, _, hg1, _, _, _, ht⟩
  · exact nil h1
  · rcases hy.2 with ⟨h0, h1⟩ | ⟨g', cap', cur', e', _, hg1', _, _, _, ht'⟩
    · exact nil h1
    · rw [e] at e'
      simp only [Value.slice.injEq, Option.some.injEq, Addr.mk.injEq, and_true, true_and] at e'
      obtain ⟨rfl, rfl⟩ := e'
      rw [hg1] at hg1'
      injection hg1' with hg1'
      injection hg1' with hg1' _
      rw [← ht, ← ht', hg1']
theorem DTl.join {A2 : Option Addr} {c2 : Nat} {ys zs : List Value} (h : DTl w lo A n c ts) (hy : w.ownsRow lo 56 4 (.slice A n c) n ys) (k : DTl w lo A' m c' us) (hz : w.ownsRow lo 56 4 (.slice A' m c') m zs) (hg : w.grownBy w' (rowOf A)) (hn : w'.ownsRow lo 56 4 (.slice A2 (n + m) c2) (n + m) (ys ++ zs)) : DTl w' lo A2 (n + m) c2 (ts ++ us) := by
  obtain ⟨ys', ho, h2⟩ := h.cells
  obtain ⟨zs', hp, k2⟩ := k.cells
  obtain rfl := DTl.same_row ho hy
  obtain rfl := DTl.same_row hp hz
  have hl := h.len
  have kl := k.len
  have l1 := hy.1
  have l2 := hz.1
  have far : ∀ {V : Option Addr} {mv cv : Nat} {xs : List Int}, OwnI w lo w.heap.size V mv cv xs → OwnI w' lo w'.heap.size V mv cv xs := fun {V mv cv xs} hv => by
    refine OwnI.of_own (hv.own.far hg fun g hA e => ?_) hv.small
    exact row_ne2 hv.own hy (by decide) (by rw [hA]; rfl) e
  refine ⟨by simp [hl, kl], _, hn, fun j hj => ?_⟩
  rcases Nat.lt_or_ge j n with h3 | h3
  · obtain ⟨V, mv, cv, U, ku, cu, e0, e1, e2, e3, hv, hu⟩ := h2 j h3
    rw [tX_left (by omega)]
    exact ⟨V, mv, cv, U, ku, cu, by rw [List.getElem?_append_left (by omega)]; exact e0, by rw [List.getElem?_append_left (by omega)]; exact e1, by rw [List.getElem?_append_left (by omega)]; exact e2, by rw [List.getElem?_append_left (by omega)]; exact e3, far hv, far hu⟩
  · obtain ⟨i, rfl⟩ : ∃ i, j = n + i := ⟨j - n, by omega⟩
    obtain ⟨V, mv, cv, U, ku, cu, e0, e1, e2, e3, hv, hu⟩ := k2 i (by omega)
    rw [tX_right (by omega), show n + i - ts.length = i by omega]
    have q : ∀ d, d < 4 → (ys' ++ zs')[(n + i) * 4 + d]? = zs'[i * 4 + d]? := fun d hd => by
      rw [List.getElem?_append_right (by omega)]
      congr 1
      omega
    exact ⟨V, mv, cv, U, ku, cu, (q 0 (by omega)).trans e0, (q 1 (by omega)).trans e1, (q 2 (by omega)).trans e2, (q 3 (by omega)).trans e3, far hv, far hu⟩
theorem DTl.one_cells {zs : List Value} (h : DTl w lo A n c ts) (hz : w.ownsRow lo 56 4 (.slice A n c) n zs) : ∀ u ∈ zs, u.oneCell' = true := fun u hu => by
  obtain ⟨zs', hp, h2⟩ := h.cells
  obtain rfl := DTl.same_row hp hz
  obtain ⟨k, hk, rfl⟩ := List.mem_iff_getElem.1 hu
  have hl := hz.1
  obtain ⟨V, mv, cv, U, ku, cu, e0, e1, e2, e3, _⟩ := h2 (k / 4) (by omega)
  have hd : k % 4 = 0 ∨ k % 4 = 1 ∨ k % 4 = 2 ∨ k % 4 = 3 := by omega
  have key : ∀ d v, k % 4 = d → zs'[k / 4 * 4 + d]? = some v → zs'[k] = v := fun d v h1 h2 => by
    rw [show k / 4 * 4 + d = k by omega, List.getElem?_eq_getElem hk] at h2
    injection h2
  rcases hd with h1 | h1 | h1 | h1
  · rw [key 0 _ h1 e0]; rfl
  · rw [key 1 _ h1 e1]; rfl
  · rw [key 2 _ h1 e2]; rfl
  · rw [key 3 _ h1 e3]; rfl
end
set_option maxRecDepth 100000 in
theorem run_appT_nil {w : World} {B : Nat} {A : Option Addr} {n c : Nat} {ys : List Value} (ty : TypeId) (c' : Nat) (hown : w.ownsRow B 56 4 (.slice A n c) n ys) :
    (Builtin.append_ #[39, 39] ty #[.slice A n c, .slice none 0 c']).run Tryz.prog w = .ok (.slice A n c) w := by
  obtain ⟨i0, hi, _⟩ := info_parts Tryz.infoTable
  rcases hown.2 with ⟨h1, h2⟩ | ⟨g, cap, cur, h1, _, _, hnc, _⟩
  · simp only [Value.slice.injEq] at h1
    obtain ⟨rfl, rfl, rfl⟩ := h1
    simp [Builtin.append_, run_underlying Tryz.underlying39, sizeOf, typeInfo, hi, Builtin.lenOf, Builtin.firstCells]
  · simp only [Value.slice.injEq, true_and] at h1
    obtain ⟨rfl, rfl⟩ := h1
    simp [Builtin.append_, run_underlying Tryz.underlying39, sizeOf, typeInfo, hi, Builtin.lenOf, Builtin.firstCells, hnc, storeCells]
set_option maxRecDepth 100000 in
/-- 'append(s, x...)' of tables. -/
theorem wp_appT {w : World} {ops : Array Oper} {rest : List Oper} {o : Oper} {a : Act} {Q : Exit → Act → World → Prop} (hgd : o.guard = none) (s x : Operand)
    (ho : o.op = .call { callee := .builtin .append, args := #[s, x], argTypes := #[39, 39] })
    (B : Nat) (A : Option Addr) (n c : Nat) (ts : List TabD) (hs : a.eval s = .slice A n c) (h : DTl w B A n c ts)
    (A' : Option Addr) (m c' : Nat) (us : List TabD) (hx : a.eval x = .slice A' m c') (k : DTl w B A' m c' us) (hsz : n + m ≤ 1099511627776) (hB : B ≤ w.heap.size)
    (hK : ∀ A2 c2 w', DTl w' B A2 (n + m) c2 (ts ++ us) → w.grownBy w' (rowOf A) → (rowOf A2 = rowOf A ∨ rowOf A2 = some w.heap.size) → wpList Tryz.prog ops Q rest (a.put o.dst (.slice A2 (n + m) c2)) w') :
    wpList Tryz.prog ops Q (o :: rest) a w := by
  obtain ⟨i0, hi, hz0, hz1, hz2⟩ := info_parts Tryz.infoTable
  obtain ⟨ys, hy⟩ := h.rows
  obtain ⟨zs, hz⟩ := k.rows
  rcases A' with _ | ad
  · have hm : m = 0 := by
      rcases hz.2 with ⟨_, h0⟩ | ⟨g, cap, cur, e, _⟩
      · exact h0
      · injection e with e; cases e
    subst hm
    obtain rfl : us = [] := List.eq_nil_of_length_eq_zero k.len
    have hrun := run_appT_nil o.type c' hy
    refine wpList_plain hgd fun K hK' => ?_
    unfold Oper.wp
    simp [execOp, ho, resolve, invoke, builtin, hs, hx, hrun, Result.andThen]
    exact hK' _ _ (hK A c w (by simpa using h) (World.grownBy.refl _ _) (.inl rfl))
  · refine wpList_append_own_at w hgd s x 39 ho B 56 i0 _ 4 64 Tryz.underlying39 hi hz0 hz1 hz2 rfl (by omega) (.slice A n c) n ys hs hy ad m c' zs hx hz.1 ?_ (k.one_cells hz) (by unfold maxLen; omega) (by omega) hB ?_
    · intro j u hu
      rcases hz.2 with ⟨e, _⟩ | ⟨g, cap, cur, e, _⟩
      · injection e with e; cases e
      · injection e with e _ _
        injection e with e
        subst e
        exact World.ownsRow.cells hz rfl j u hu
    · intro v' w' h1 h2 _ h4
      have hv : ∃ A2 c2, v' = .slice A2 (n + m) c2 := by
        rcases h1.2 with ⟨hv, h0⟩ | ⟨g, cap, cur, hv, _⟩
        · rw [h0]; exact ⟨none, 0, hv⟩
        · exact ⟨_, cap, hv⟩
      obtain ⟨A2, c2, rfl⟩ := hv
      rw [ownBlock_row] at h2 h4
      rw [ownBlock_row] at h4
      exact hK A2 c2 w' (DTl.join h hy k hz h2 h1) h2 h4
section
variable {w0 w w' : World} {g L L' b r lo : Nat} {P A Z : Option Addr} {pn pc n c m cz : Nat} {ps : List Int} {vs : List (ByteArray × Int)} {Y : Option Addr} {p cp : Nat} {ts : List TabD} {Q : Option Addr} {q cq : Nat} {us : List TabD} {x y : LosD} {fl : Int}
/-- A drawn server while it is spoilt: its box at b, the result's box at r. -/
structure SvF (w0 w : World) (g L b r : Nat) (P A Z : Option Addr) (pn pc n c m cz : Nat) (ps : List Int) (vs : List (ByteArray × Int)) (Y : Option Addr) (p cp : Nat) (ts : List TabD) (Q : Option Addr) (q cq : Nat) (us : List TabD) (x y : LosD) (fl : Int) : Prop where
  o : SvO w w0.heap.size P A Z pn pc n c m cz ps vs Y p cp ts Q q cq us x y fl
  cu : Cur w g L
  ch : Chg g (g + 1) w0 w
  ap : ∀ r, rowOf Y = some r → rowOf Q ≠ some r
  bx : w.heap[b]? = some (.cells #[.slice P pn pc, .slice A n c, .slice Z m cz, .slice Y p cp, .int .i64 x.a, .int .i64 x.b, .int .i64 x.c, .int .i64 x.d, .int .i64 y.a, .int .i64 y.b, .int .i64 y.c, .int .i64 y.d, .int .i64 fl, .slice Q q cq] 44 (0, 0))
  rx : w.heap[r]? = some (.cells #[.slice none 0 0, .slice none 0 0, .slice none 0 0, .slice none 0 0, .int .i64 0, .int .i64 0, .int .i64 0, .int .i64 0, .int .i64 0, .int .i64 0, .int .i64 0, .int .i64 0, .int .i64 0, .slice none 0 0] 44 (0, 0))
  rb : r ≠ b ∧ w0.heap.size ≤ r ∧ w0.heap.size ≤ b ∧ g < w0.heap.size
theorem SvU.toF (h : SvU w0 w g L b r P A Z pn pc n c m cz ps vs Y p cp ts Q q cq us x y fl) : SvF w0 w g L b r P A Z pn pc n c m cz ps vs Y p cp ts Q q cq us x y fl :=
  ⟨⟨h.sv.p, h.sv.v, h.sv.s, h.sv.d.weak, h.st.pl, h.st.aq, by have := h.sv.hp; omega, h.sv.hn, h.sv.hm, by have := h.hpl; omega, by have := h.haq; omega⟩, h.st.cu, h.st.ch, h.st.ap, h.st.bx, h.rx, h.rb.1, h.rb.2, h.st.ab.1, h.st.ab.2⟩
theorem SvF.chg (h : SvF w0 w g L b r P A Z pn pc n c m cz ps vs Y p cp ts Q q cq us x y fl) (hc : Cur w' g L') (hx : Chg g (g + 1) w w') : SvF w0 w' g L' b r P A Z pn pc n c m cz ps vs Y p cp ts Q q cq us x y fl :=
  ⟨h.o.chg hx h.rb.2.2.2, hc, h.ch.trans hx, h.ap, box_chg h.bx hx (by have := h.rb; omega), box_chg h.rx hx (by have := h.rb; omega), h.rb⟩
theorem SvF.below (h : SvF w0 w g L b r P A Z pn pc n c m cz ps vs Y p cp ts Q q cq us x y fl) (hb : Below w.heap.size w w') : SvF w0 w' g L b r P A Z pn pc n c m cz ps vs Y p cp ts Q q cq us x y fl :=
  ⟨h.o.below hb, h.cu.below hb, h.ch.then_ hb, h.ap, bxb h.bx hb, bxb h.rx hb, h.rb⟩
theorem SvO.keepB {k : Nat} {cs : Array Value} {T : TypeId} (h : SvO w lo P A Z pn pc n c m cz ps vs Y p cp ts Q q cq us x y fl) (hb : w.heap[k]? = some (.cells cs T (0, 0))) (h1 : T ≠ 3) (h2 : T ≠ 133) (h3 : T ≠ 135) (h4 : T ≠ 56) (hw : ∀ j, j ≠ k → w'.heap[j]? = w.heap[j]?) (hz : w'.heap.size = w.heap.size) : SvO w' lo P A Z pn pc n c m cz ps vs Y p cp ts Q q cq us x y fl :=
  ⟨h.op.off hb h1 hw hz, h.ov.keepB hb h2 (fun j _ => hw j), h.os, h.od.keepB hb h3 h1 (fun j _ => hw j) (Nat.le_of_eq hz.symm), h.pl.off hb h1 h4 hw hz, h.aq.off hb h1 h4 hw hz, h.hp, h.hn, h.hm, h.hpl, h.haq⟩
/-- Numbers stored into the server's box. -/
theorem SvF.put {x2 y2 : LosD} {fl2 : Int} (l : List (Nat × Value)) (h : SvF w0 w g L b r P A Z pn pc n c m cz ps vs Y p cp ts Q q cq us x y fl) (he : l.foldl (fun c p => c.setIfInBounds p.1 p.2) #[.slice P pn pc, .slice A n c, .slice Z m cz, .slice Y p cp, .int .i64 x.a, .int .i64 x.b, .int .i64 x.c, .int .i64 x.d, .int .i64 y.a, .int .i64 y.b, .int .i64 y.c, .int .i64 y.d, .int .i64 fl, .slice Q q cq] = #[.slice P pn pc, .slice A n c, .slice Z m cz, .slice Y p cp, .int .i64 x2.a, .int .i64 x2.b, .int .i64 x2.c, .int .i64 x2.d, .int .i64 y2.a, .int .i64 y2.b, .int .i64 y2.c, .int .i64 y2.d, .int .i64 fl2, .slice Q q cq]) : SvF w0 (puts w b l) g L b r P A Z pn pc n c m cz ps vs Y p cp ts Q q cq us x2 y2 fl2 := by
  have hb := h.rb
  have hn := fun k (hk : k ≠ b) => puts_ne (g := b) l w hk
  have hz := puts_size (g := b) l w
  have ho := h.o.keepB h.bx (by decide) (by decide) (by decide) (by decide) hn hz
  exact ⟨⟨ho.op, ho.ov, ho.os, ho.od, ho.pl, ho.aq, ho.hp, ho.hn, ho.hm, ho.hpl, ho.haq⟩, h.cu.keep fun k hk => hn k (by omega), puts_new l w h.ch hb.2.2.1, h.ap, by rw [puts_box _ _ _ h.bx, he], (hn r hb.1).trans h.rx, hb⟩
/-- Another geography. -/
theorem SvF.geo {P2 : Option Addr} {pn2 pc2 : Nat} {ps2 : List Int} (h : SvF w0 w g L b r P A Z pn pc n c m cz ps vs Y p cp ts Q q cq us x y fl) (hP : OwnI w w0.heap.size w.heap.size P2 pn2 pc2 ps2) (hn2 : pn2 ≤ 31) : SvF w0 (w.setCell ⟨b, 0, none⟩ (.slice P2 pn2 pc2)) g L b r P2 A Z pn2 pc2 n c m cz ps2 vs Y p cp ts Q q cq us x y fl := by
  have hb := h.rb
  have hn := fun k (hk : k ≠ b) => Below.heap_setCell w ⟨b, 0, none⟩ (.slice P2 pn2 pc2) k hk
  have hz : (w.setCell ⟨b, 0, none⟩ (.slice P2 pn2 pc2)).heap.size = w.heap.size := by simp
  have ho := h.o.keepB h.bx (by decide) (by decide) (by decide) (by decide) hn hz
  exact ⟨⟨hP.off h.bx (by decide) hn hz, ho.ov, ho.os, ho.od, ho.pl, ho.aq, hn2, ho.hn, ho.hm, ho.hpl, ho.haq⟩, h.cu.far (by show g < b; omega) _, h.ch.setNewD (by show w0.heap.size ≤ b; omega) _, h.ap, box_set h.bx 0 _, box_off h.rx (by exact hb.1) _, hb⟩
theorem SvO.far {E : Option Addr} {ne ce : Nat} {es : List TabD} (h : SvO w lo P A Z pn pc n c m cz ps vs Y p cp ts Q q cq us x y fl) (hE : DTl w lo E ne ce es) (hg : w.grownBy w' (rowOf E)) : OwnI w' lo w'.heap.size P pn pc ps ∧ DVr w' lo A n c vs ∧ DRq (fun _ => True) w' lo Z m cz := by
  obtain ⟨ys, hy⟩ := hE.rows
  exact ⟨h.op.farT hy hg, h.ov.far hy hg, h.od.far hy hg⟩
/-- Another plan. -/
theorem SvF.plan {Y2 : Option Addr} {p2 cp2 : Nat} {ts2 : List TabD} (h : SvF w0 w g L b r P A Z pn pc n c m cz ps vs Y p cp ts Q q cq us x y fl) (hg : w.grownBy w' (rowOf Y)) (hn : DTl w' w0.heap.size Y2 p2 cp2 ts2) (hr : rowOf Y2 = rowOf Y ∨ rowOf Y2 = some w.heap.size) (hp2 : p2 ≤ 100) : SvF w0 (w'.setCell ⟨b, 3, none⟩ (.slice Y2 p2 cp2)) g L b r P A Z pn pc n c m cz ps vs Y2 p2 cp2 ts2 Q q cq us x y fl := by
  have hb := h.rb
  have x1 := box_app2 h.bx hg (h.o.pl.ne_box h.bx (by decide))
  have x2 := box_app2 h.rx hg (h.o.pl.ne_box h.rx (by decide))
  have hrow := fun r hr => (h.o.pl.row_ge r hr).1
  have a1 := h.o.aq.far hg (fun r hr e => h.ap r e hr) (fun hv r hr => h.o.pl.ne_row hv hr)
  obtain ⟨f1, f2, f3⟩ := h.o.far h.o.pl hg
  have ho := (SvO.mk (x := x) (y := y) (fl := fl) f1 f2 h.o.os f3 hn a1 h.o.hp h.o.hn h.o.hm hp2 h.o.haq).keepB x1 (by decide) (by decide) (by decide) (by decide) (w' := w'.setCell ⟨b, 3, none⟩ (.slice Y2 p2 cp2)) (fun k hk => Below.heap_setCell w' ⟨b, 3, none⟩ _ k hk) (by simp)
  refine ⟨ho, (cur_app h.cu hg (fun k hk => by have := hrow k hk; omega)).far (by show g < b; omega) _, (chg_app h.ch hg hrow).setNewD (by show w0.heap.size ≤ b; omega) _, fun r h1 h2 => ?_, box_set x1 3 _, box_off x2 (by exact hb.1) _, hb⟩
  rcases hr with e | e
  · rw [e] at h1; exact h.ap r h1 h2
  · rw [e] at h1
    injection h1 with h1
    have := (h.o.aq.row_ge r h2).2
    omega
/-- Other answered tables. -/
theorem SvF.aqd {Q2 : Option Addr} {q2 cq2 : Nat} {us2 : List TabD} (h : SvF w0 w g L b r P A Z pn pc n c m cz ps vs Y p cp ts Q q cq us x y fl) (hg : w.grownBy w' (rowOf Q)) (hn : DTl w' w0.heap.size Q2 q2 cq2 us2) (hr : rowOf Q2 = rowOf Q ∨ rowOf Q2 = some w.heap.size) (hq2 : q2 ≤ 100) : SvF w0 (w'.setCell ⟨b, 13, none⟩ (.slice Q2 q2 cq2)) g L b r P A Z pn pc n c m cz ps vs Y p cp ts Q2 q2 cq2 us2 x y fl := by
  have hb := h.rb
  have x1 := box_app2 h.bx hg (h.o.aq.ne_box h.bx (by decide))
  have x2 := box_app2 h.rx hg (h.o.aq.ne_box h.rx (by decide))
  have hrow := fun r hr => (h.o.aq.row_ge r hr).1
  have a1 := h.o.pl.far hg (fun r hr e => h.ap r hr e) (fun hv r hr => h.o.aq.ne_row hv hr)
  obtain ⟨f1, f2, f3⟩ := h.o.far h.o.aq hg
  have ho := (SvO.mk (x := x) (y := y) (fl := fl) f1 f2 h.o.os f3 a1 hn h.o.hp h.o.hn h.o.hm h.o.hpl hq2).keepB x1 (by decide) (by decide) (by decide) (by decide) (w' := w'.setCell ⟨b, 13, none⟩ (.slice Q2 q2 cq2)) (fun k hk => Below.heap_setCell w' ⟨b, 13, none⟩ _ k hk) (by simp)
  refine ⟨ho, (cur_app h.cu hg (fun k hk => by have := hrow k hk; omega)).far (by show g < b; omega) _, (chg_app h.ch hg hrow).setNewD (by show w0.heap.size ≤ b; omega) _, fun r h1 h2 => ?_, box_set x1 13 _, box_off x2 (by exact hb.1) _, hb⟩
  rcases hr with e | e
  · rw [e] at h2; exact h.ap r h1 h2
  · rw [e] at h2
    injection h2 with h2
    have := (h.o.pl.row_ge r h1).2
    omega
/-- The end: the box's value goes to the result. -/
theorem SvF.quit (h : SvF w0 w g L b w0.heap.size P A Z pn pc n c m cz ps vs Y p cp ts Q q cq us x y fl) (hl : L ≤ L') : DSv g L' w0 (.returned (.agg #[.slice P pn pc, .slice A n c, .slice Z m cz, .slice Y p cp, .int .i64 x.a, .int .i64 x.b, .int .i64 x.c, .int .i64 x.d, .int .i64 y.a, .int .i64 y.b, .int .i64 y.c, .int .i64 y.d, .int .i64 fl, .slice Q q cq])) (puts w w0.heap.size [(0, .slice P pn pc), (1, .slice A n c), (2, .slice Z m cz), (3, .slice Y p cp), (4, .int .i64 x.a), (5, .int .i64 x.b), (6, .int .i64 x.c), (7, .int .i64 x.d), (8, .int .i64 y.a), (9, .int .i64 y.b), (10, .int .i64 y.c), (11, .int .i64 y.d), (12, .int .i64 fl), (13, .slice Q q cq)]) := by
  have hb := h.rb
  have hn := fun k (hk : k ≠ w0.heap.size) => puts_ne (g := w0.heap.size) [(0, .slice P pn pc), (1, .slice A n c), (2, .slice Z m cz), (3, .slice Y p cp), (4, .int .i64 x.a), (5, .int .i64 x.b), (6, .int .i64 x.c), (7, .int .i64 x.d), (8, .int .i64 y.a), (9, .int .i64 y.b), (10, .int .i64 y.c), (11, .int .i64 y.d), (12, .int .i64 fl), (13, .slice Q q cq)] w hk
  have hz := puts_size (g := w0.heap.size) [(0, .slice P pn pc), (1, .slice A n c), (2, .slice Z m cz), (3, .slice Y p cp), (4, .int .i64 x.a), (5, .int .i64 x.b), (6, .int .i64 x.c), (7, .int .i64 x.d), (8, .int .i64 y.a), (9, .int .i64 y.b), (10, .int .i64 y.c), (11, .int .i64 y.d), (12, .int .i64 fl), (13, .slice Q q cq)] w
  exact ⟨P, A, Z, pn, pc, n, c, m, cz, ps, vs, Y, p, cp, ts, Q, q, cq, us, x, y, fl, rfl, h.o.keepB h.rx (by decide) (by decide) (by decide) (by decide) hn hz, (h.cu.keep fun k hk => hn k (by omega)).mono hl, puts_new _ _ h.ch (Nat.le_refl _)⟩
end
end

section
open Go.RowKit

/-- A drawn table for a server. -/
def DAs (lo g L : Nat) (w : World) (e : Ending) (w' : World) : Prop := ∃ (V : Option Addr) (m d : Nat) (U : Option Addr) (k d2 : Nat) (t : TabD), e = .returned (.agg #[.int .i64 t.lv, .slice V m d, .slice U k d2, .int .i64 t.sum]) ∧ OwnI w' lo w'.heap.size V m d t.vars ∧ OwnI w' lo w'.heap.size U k d2 t.wh ∧ Cur w' g L ∧ Chg g (g + 1) w w'
theorem DTl.at_ {w : World} {lo n c j : Nat} {A : Option Addr} {ts : List TabD} (h : DTl w lo A n c ts) (hj : j < n) : ∃ ga, A = some ⟨ga, 0, none⟩ ∧ lo ≤ ga ∧ ga < w.heap.size ∧ ∃ (V : Option Addr) (m cv : Nat) (U : Option Addr) (k cu : Nat), w.cell? ⟨ga, j * 4, none⟩ = some (.int .i64 (tX ts j).lv) ∧ w.cell? ⟨ga, j * 4 + 1, none⟩ = some (.slice V m cv) ∧ w.cell? ⟨ga, j * 4 + 2, none⟩ = some (.slice U k cu) ∧ w.cell? ⟨ga, j * 4 + 3, none⟩ = some (.int .i64 (tX ts j).sum) ∧ OwnI w lo w.heap.size V m cv (tX ts j).vars ∧ OwnI w lo w.heap.size U k cu (tX ts j).wh := by
  obtain ⟨ys, ho, h2⟩ := h.cells
  obtain ⟨g, rfl, _, _⟩ := row_head ho (show 0 < n by omega)
  have hl := ho.1
  obtain ⟨V, m, cv, U, k, cu, e0, e1, e2, e3, hv, hu⟩ := h2 j hj
  exact ⟨g, rfl, (Go.Proofs.YtfanpbfmnckmnaaGreat.row_ge ho g rfl).1, (Go.Proofs.YtfanpbfmnckmnaaGreat.row_ge ho g rfl).2, V, m, cv, U, k, cu, (World.ownsRow.cellAt ho (j * 4) (by omega)).trans e0, (World.ownsRow.cellAt ho (j * 4 + 1) (by omega)).trans e1, (World.ownsRow.cellAt ho (j * 4 + 2) (by omega)).trans e2, (World.ownsRow.cellAt ho (j * 4 + 3) (by omega)).trans e3, hv, hu⟩

/-- The result's box is stored. -/
theorem DAs.quit {w w3 : World} {g L lo r : Nat} {V U : Option Addr} {m d k d2 : Nat} {t : TabD} {cs : Array Value} (hx : w3.heap[r]? = some (.cells cs 56 (0, 0))) (hr : w.heap.size ≤ r) (hgl : g < w.heap.size) (oV : OwnI w3 lo w3.heap.size V m d t.vars) (oU : OwnI w3 lo w3.heap.size U k d2 t.wh) (hc : Cur w3 g L) (hg : Chg g (g + 1) w w3) :
    DAs lo g L w (.returned (.agg #[.int .i64 t.lv, .slice V m d, .slice U k d2, .int .i64 t.sum])) ((((w3.setCell ⟨r, 0, none⟩ (.int .i64 t.lv)).setCell ⟨r, 1, none⟩ (.slice V m d)).setCell ⟨r, 2, none⟩ (.slice U k d2)).setCell ⟨r, 3, none⟩ (.int .i64 t.sum)) := by
  have hn := fun j (hj : j ≠ r) => puts_ne (g := r) [(0, .int .i64 t.lv), (1, .slice V m d), (2, .slice U k d2), (3, .int .i64 t.sum)] w3 hj
  have hz := puts_size (g := r) [(0, .int .i64 t.lv), (1, .slice V m d), (2, .slice U k d2), (3, .int .i64 t.sum)] w3
  exact ⟨V, m, d, U, k, d2, t, rfl, oV.off hx (by decide) hn hz, oU.off hx (by decide) hn hz, hc.keep fun j hj => hn j (by omega), puts_new (g := r) [(0, .int .i64 t.lv), (1, .slice V m d), (2, .slice U k d2), (3, .int .i64 t.sum)] w3 hg hr⟩

set_option maxRecDepth 100000 in
set_option maxHeartbeats 4000000 in
theorem asked_any (P A Z : Option Addr) (pn pc n c m cz : Nat) (ps : List Int) (vs : List (ByteArray × Int)) (Y : Option Addr) (p cp : Nat) (ts : List TabD) (Q : Option Addr) (q cq : Nat) (us : List TabD) (x y : LosD) (fl : Int) (g L lo : Nat) (w : World) (h : Cur w g L) (hL : L ≤ 200000) (hO : SvO w lo P A Z pn pc n c m cz ps vs Y p cp ts Q q cq us x y fl) (hg : g < lo) (hlo : lo ≤ w.heap.size) :
    Calls Tryz.prog 96 #[.pointer (some ⟨g, 0, none⟩), .agg #[.slice P pn pc, .slice A n c, .slice Z m cz, .slice Y p cp, .int .i64 x.a, .int .i64 x.b, .int .i64 x.c, .int .i64 x.d, .int .i64 y.a, .int .i64 y.b, .int .i64 y.c, .int .i64 y.d, .int .i64 fl, .slice Q q cq]] w (DAs lo g (L + 120) w) := by
  have hlt := h.lt
  obtain ⟨b0, x1, x2⟩ := box_two w #[.slice P pn pc, .slice A n c, .slice Z m cz, .slice Y p cp, .int .i64 x.a, .int .i64 x.b, .int .i64 x.c, .int .i64 x.d, .int .i64 y.a, .int .i64 y.b, .int .i64 y.c, .int .i64 y.d, .int .i64 fl, .slice Q q cq] #[.int .i64 0, .slice none 0 0, .slice none 0 0, .int .i64 0] 44 56
  have HS := Lib.hid (show ((w.alloc (.cells #[.slice P pn pc, .slice A n c, .slice Z m cz, .slice Y p cp, .int .i64 x.a, .int .i64 x.b, .int .i64 x.c, .int .i64 x.d, .int .i64 y.a, .int .i64 y.b, .int .i64 y.c, .int .i64 y.d, .int .i64 fl, .slice Q q cq] 44)).alloc (.cells #[.int .i64 0, .slice none 0 0, .slice none 0 0, .int .i64 0] 56)).heap.size = w.heap.size + 1 + 1 by simp)
  have hc0 := h.below b0
  have HG0 := Lib.hid (show Chg g (g + 1) w ((w.alloc (.cells #[.slice P pn pc, .slice A n c, .slice Z m cz, .slice Y p cp, .int .i64 x.a, .int .i64 x.b, .int .i64 x.c, .int .i64 x.d, .int .i64 y.a, .int .i64 y.b, .int .i64 y.c, .int .i64 y.d, .int .i64 fl, .slice Q q cq] 44)).alloc (.cells #[.int .i64 0, .slice none 0 0, .slice none 0 0, .int .i64 0] 56)) from Chg.of_below b0)
  have HO := Lib.hid (hO.below b0)
  have hp100 := hO.hpl
  have l1 := lt_of_block x1
  clear h hO b0
  have cb0 := bxc x1 0 (.slice P pn pc) rfl
  have cb1 := bxc x1 1 (.slice A n c) rfl
  have cb2 := bxc x1 2 (.slice Z m cz) rfl
  have cb3 := bxc x1 3 (.slice Y p cp) rfl
  have cb4 := bxc x1 4 (.int .i64 x.a) rfl
  have cb5 := bxc x1 5 (.int .i64 x.b) rfl
  have cb6 := bxc x1 6 (.int .i64 x.c) rfl
  have cb7 := bxc x1 7 (.int .i64 x.d) rfl
  have cb8 := bxc x1 8 (.int .i64 y.a) rfl
  have cb9 := bxc x1 9 (.int .i64 y.b) rfl
  have cb10 := bxc x1 10 (.int .i64 y.c) rfl
  have cb11 := bxc x1 11 (.int .i64 y.d) rfl
  have cb12 := bxc x1 12 (.int .i64 fl) rfl
  have cb13 := bxc x1 13 (.slice Q q cq) rfl
  go_enter Tryz.func96, Tryz.ntmps96
  by_cases hp0 : 0 < p
  · have hdp : decide ((0 : Int) < (p : Int)) = true := by simpa using hp0
    go_wp2_with fail
    generalize ((w.alloc (.cells #[.slice P pn pc, .slice A n c, .slice Z m cz, .slice Y p cp, .int .i64 x.a, .int .i64 x.b, .int .i64 x.c, .int .i64 x.d, .int .i64 y.a, .int .i64 y.b, .int .i64 y.c, .int .i64 y.d, .int .i64 fl, .slice Q q cq] 44)).alloc (.cells #[.int .i64 0, .slice none 0 0, .slice none 0 0, .int .i64 0] 56)) = w1 at *
    have hs1 : w.heap.size + 1 + 1 ≤ w1.heap.size := Nat.le_of_eq HS.out.symm
    refine (one_any g _ _ _ hc0 (by omega) (by omega)).mono ?_
    rintro e w2 ⟨bb, rfl, hc2, hg2⟩
    have X1 := Lib.hid (box_chg x1 hg2 (by omega))
    have X2 := Lib.hid (box_chg x2 hg2 (by omega))
    have HO2 := Lib.hid (HO.out.chg hg2 hg)
    have HG2 := Lib.hid (HG0.out.trans hg2)
    have z2 := hg2.size
    clear hc0 x1 x2 HO HG0 hg2 l1 cb0 cb1 cb2 cb3 cb4 cb5 cb6 cb7 cb8 cb9 cb10 cb11 cb12 cb13
    cases bb
    · have l2 := lt_of_block X1.out
      have cb0 := bxc X1.out 0 (.slice P pn pc) rfl
      have cb1 := bxc X1.out 1 (.slice A n c) rfl
      have cb2 := bxc X1.out 2 (.slice Z m cz) rfl
      have cb3 := bxc X1.out 3 (.slice Y p cp) rfl
      have cb4 := bxc X1.out 4 (.int .i64 x.a) rfl
      have cb5 := bxc X1.out 5 (.int .i64 x.b) rfl
      have cb6 := bxc X1.out 6 (.int .i64 x.c) rfl
      have cb7 := bxc X1.out 7 (.int .i64 x.d) rfl
      have cb8 := bxc X1.out 8 (.int .i64 y.a) rfl
      have cb9 := bxc X1.out 9 (.int .i64 y.b) rfl
      have cb10 := bxc X1.out 10 (.int .i64 y.c) rfl
      have cb11 := bxc X1.out 11 (.int .i64 y.d) rfl
      have cb12 := bxc X1.out 12 (.int .i64 fl) rfl
      have cb13 := bxc X1.out 13 (.slice Q q cq) rfl
      have hcd : Cur w2.drew g (L + 2) := hc2
      have hpk := Lib.hid (pick_any g _ p _ hcd (by omega) (by omega))
      obtain ⟨ga, rfl, hga, _⟩ := HO2.out.pl.at_ (j := 0) hp0
      go_wp2_with fail
      go_region_law ((go_simp; go_at_call 85; refine hpk.out.mono ?_; rintro e w3 ⟨v, rfl, hv0, hv1, hc3, hg3⟩; have hv2 : v < p := (by split at hv1 <;> omega); clear hv1; obtain ⟨vn, rfl⟩ := Int.eq_ofNat_of_zero_le hv0; have hg3' : Chg g (g + 1) w2 w3 := (Chg.of_below (Below.refl _ _).drew).trans hg3; have HO3 := Lib.hid (HO2.out.chg hg3' hg); have HG3 := Lib.hid (HG2.out.trans hg3'); have X13 := Lib.hid (box_chg X1.out hg3' (by omega)); have X23 := Lib.hid (box_chg X2.out hg3' (by omega)); have k3 := bxc X13.out 3 (.slice (some ⟨ga, 0, none⟩) p cp) rfl; obtain ⟨ga2, had, _, _, V, mt, d, U, kt, et, e0, e1, e2, e3, hV, hU⟩ := HO3.out.pl.at_ (j := vn) (by omega); obtain rfl : ga = ga2 := (by injection had with had; injection had); have lx := lt_of_block X23.out; have q0 := bxc X23.out 0 _ rfl; have q1 := bxc X23.out 1 _ rfl; have q2 := bxc X23.out 2 _ rfl; have q3 := bxc X23.out 3 _ rfl; have f0 := bxf X23.out 0; have f1 := bxf X23.out 1; have f2 := bxf X23.out 2; have f3 := bxf X23.out 3; have HV := Lib.hid hV; have HU := Lib.hid hU; have z3 := hg3'.size; clear had hg3 hg3' hV hU q0 q1 q2 q3 f0 f1 f2 f3; have rr := X23.out; have lr9 := lt_of_block rr; have p0 := bxc rr 0 _ rfl; have f0 := bxf rr 0; have p1 := bxc rr 1 _ rfl; have f1 := bxf rr 1; have p2 := bxc rr 2 _ rfl; have f2 := bxf rr 2; have p3 := bxc rr 3 _ rfl; have f3 := bxf rr 3; have Q9 := Lib.hid (DAs.quit (L := L + 120) (t := tX ts vn) rr (by omega) hlt HV.out HU.out (hc3.mono (by omega)) HG3.out); have tt := box_set (box_set (box_set (box_set rr 0 (.int .i64 (tX ts vn).lv)) 1 (.slice V mt d)) 2 (.slice U kt et)) 3 (.int .i64 (tX ts vn).sum); have r0 := bxc tt 0 (.int .i64 (tX ts vn).lv) rfl; have r1 := bxc tt 1 (.slice V mt d) rfl; have r2 := bxc tt 2 (.slice U kt et) rfl; have r3 := bxc tt 3 (.int .i64 (tX ts vn).sum) rfl; clear rr tt; dsimp only))
      all_goals go_wp2
      all_goals exact bodyPost_ret (v := .agg #[.int .i64 (tX ts vn).lv, .slice V mt d, .slice U kt et, .int .i64 (tX ts vn).sum]) (by simp [results, Tryz.results96, go_sem, r0, r1, r2, r3]) rfl Q9.out
    · have l2 := lt_of_block X1.out
      have cb0 := bxc X1.out 0 (.slice P pn pc) rfl
      have cb1 := bxc X1.out 1 (.slice A n c) rfl
      go_wp2_with fail
      refine (anyTable_any g _ lo lo _ n c pn pc P A ps vs _ hc2 (by omega) HO2.out.op hg HO2.out.ov hg HO2.out.os (by have := HO2.out.hn; omega) (by have := HO2.out.hp; omega)).mono ?_
      rintro e w3 ⟨lv, V, mt, d, xs, U, kt, et, us1, sm1, rfl, _, _, oV, oU, hc3, hg3⟩
      have HG3 := Lib.hid (HG2.out.trans hg3)
      have X23 := Lib.hid (box_chg X2.out hg3 (by omega))
      have HV := Lib.hid (oV.fit (lo' := lo) (by omega))
      have HU := Lib.hid (oU.fit (lo' := lo) (by omega))
      have z3 := hg3.size
      clear hc2 oV oU hg3 l2 cb0 cb1
      have rr := X23.out
      have lr9 := lt_of_block rr
      have p0 := bxc rr 0 _ rfl
      have f0 := bxf rr 0
      have p1 := bxc rr 1 _ rfl
      have f1 := bxf rr 1
      have p2 := bxc rr 2 _ rfl
      have f2 := bxf rr 2
      have p3 := bxc rr 3 _ rfl
      have f3 := bxf rr 3
      have Q9 := Lib.hid (DAs.quit (L := L + 120) (t := ⟨lv, xs, us1, sm1⟩) rr (by omega) hlt HV.out HU.out (hc3.mono (by omega)) HG3.out)
      have tt := box_set (box_set (box_set (box_set rr 0 (.int .i64 lv)) 1 (.slice V mt d)) 2 (.slice U kt et)) 3 (.int .i64 sm1)
      have r0 := bxc tt 0 (.int .i64 lv) rfl
      have r1 := bxc tt 1 (.slice V mt d) rfl
      have r2 := bxc tt 2 (.slice U kt et) rfl
      have r3 := bxc tt 3 (.int .i64 sm1) rfl
      clear rr tt
      go_wp2
      exact bodyPost_ret (v := .agg #[.int .i64 lv, .slice V mt d, .slice U kt et, .int .i64 sm1]) (by simp [results, Tryz.results96, go_sem, r0, r1, r2, r3]) rfl Q9.out
  · have hdp : decide ((0 : Int) < (p : Int)) = false := by simpa using (show p ≤ 0 by omega)
    have X1 := Lib.hid x1
    have X2 := Lib.hid x2
    go_wp2_with fail
    generalize ((w.alloc (.cells #[.slice P pn pc, .slice A n c, .slice Z m cz, .slice Y p cp, .int .i64 x.a, .int .i64 x.b, .int .i64 x.c, .int .i64 x.d, .int .i64 y.a, .int .i64 y.b, .int .i64 y.c, .int .i64 y.d, .int .i64 fl, .slice Q q cq] 44)).alloc (.cells #[.int .i64 0, .slice none 0 0, .slice none 0 0, .int .i64 0] 56)) = w1 at *
    have hs1 : w.heap.size + 1 + 1 ≤ w1.heap.size := Nat.le_of_eq HS.out.symm
    have l2 := lt_of_block X1.out
    have cb0 := bxc X1.out 0 (.slice P pn pc) rfl
    have cb1 := bxc X1.out 1 (.slice A n c) rfl
    go_wp2_with fail
    refine (anyTable_any g _ lo lo _ n c pn pc P A ps vs _ hc0 (by omega) HO.out.op hg HO.out.ov hg HO.out.os (by have := HO.out.hn; omega) (by have := HO.out.hp; omega)).mono ?_
    rintro e w3 ⟨lv, V, mt, d, xs, U, kt, et, us1, sm1, rfl, _, _, oV, oU, hc3, hg3⟩
    have HG3 := Lib.hid (HG0.out.trans hg3)
    have X23 := Lib.hid (box_chg X2.out hg3 (by omega))
    have HV := Lib.hid (oV.fit (lo' := lo) (by omega))
    have HU := Lib.hid (oU.fit (lo' := lo) (by omega))
    have z3 := hg3.size
    clear hc0 oV oU hg3 l2 cb0 cb1
    have rr := X23.out
    have lr9 := lt_of_block rr
    have p0 := bxc rr 0 _ rfl
    have f0 := bxf rr 0
    have p1 := bxc rr 1 _ rfl
    have f1 := bxf rr 1
    have p2 := bxc rr 2 _ rfl
    have f2 := bxf rr 2
    have p3 := bxc rr 3 _ rfl
    have f3 := bxf rr 3
    have Q9 := Lib.hid (DAs.quit (L := L + 120) (t := ⟨lv, xs, us1, sm1⟩) rr (by omega) hlt HV.out HU.out (hc3.mono (by omega)) HG3.out)
    have tt := box_set (box_set (box_set (box_set rr 0 (.int .i64 lv)) 1 (.slice V mt d)) 2 (.slice U kt et)) 3 (.int .i64 sm1)
    have r0 := bxc tt 0 (.int .i64 lv) rfl
    have r1 := bxc tt 1 (.slice V mt d) rfl
    have r2 := bxc tt 2 (.slice U kt et) rfl
    have r3 := bxc tt 3 (.int .i64 sm1) rfl
    clear rr tt
    go_wp2
    exact bodyPost_ret (v := .agg #[.int .i64 lv, .slice V mt d, .slice U kt et, .int .i64 sm1]) (by simp [results, Tryz.results96, go_sem, r0, r1, r2, r3]) rfl Q9.out
end
end Go.Proofs.YtfanpbfmnckmnaaGreat
