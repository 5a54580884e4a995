/- Records of the call's own: one record's turning, rows of records, and what they read as. -/
import Derived.Test.YtgeilnkglbcmeaaRecs
namespace Go.Proofs.Ytgeilnkglbcmeaa
open Go.RowKit

theorem box_three (w : World) (cs ds es : Array Value) (T U X : TypeId) :
    Below w.heap.size w (((w.alloc (.cells cs T)).alloc (.cells ds U)).alloc (.cells es X)) ∧ (((w.alloc (.cells cs T)).alloc (.cells ds U)).alloc (.cells es X)).heap[w.heap.size]? = some (.cells cs T (0, 0)) ∧
    (((w.alloc (.cells cs T)).alloc (.cells ds U)).alloc (.cells es X)).heap[w.heap.size + 1]? = some (.cells ds U (0, 0)) ∧ (((w.alloc (.cells cs T)).alloc (.cells ds U)).alloc (.cells es X)).heap[w.heap.size + 1 + 1]? = some (.cells es X (0, 0)) ∧
    (((w.alloc (.cells cs T)).alloc (.cells ds U)).alloc (.cells es X)).heap.size = w.heap.size + 1 + 1 + 1 := by
  obtain ⟨h0, h1, h2⟩ := box_two w cs ds T U
  have h3 := heap_alloc_new ((w.alloc (.cells cs T)).alloc (.cells ds U)) (.cells es X)
  exact ⟨h0.alloc h0.size _, (Below.heap_alloc _ _ _ (by simp; omega)).trans h1, (Below.heap_alloc _ _ _ (by simp)).trans h2, by simpa using h3, by simp⟩

set_option maxHeartbeats 800000 in
theorem toRecord_any (x y : Int) (A : Option Addr) (n c : Nat) (xs : List Int) (w : World) (hx : Ints w A n xs) (hn : n ≤ 1099511627776) :
    Calls Try.prog 60 #[.agg #[.int .i64 x, .int .i64 y, .slice A n c]] w fun e w' => ∃ V c', e = .returned (.agg #[.int .i64 x, .int .i64 y, .slice V n c']) ∧ OwnI w' w.heap.size w'.heap.size V n c' xs ∧ Below w.heap.size w w' := by
  obtain ⟨b0, x1, x2, x3, S⟩ := box_three w #[.int .i64 x, .int .i64 y, .slice A n c] #[.int .i64 0, .int .i64 0, .slice none 0 0] #[.int .i64 x, .int .i64 y, .slice none 0 0] 80 53 53
  have HS := Lib.hid S
  clear S
  have HX := Lib.hid (hx.below b0)
  clear hx
  go_enter Try.func60, Try.ntmps60
  go_wp2_with fail
  refine (toIntS_law _ _ _ xs _ HX.out hn).mono ?_
  rintro e w2 ⟨V, c', rfl, o2, hb2⟩
  generalize (((w.alloc (.cells #[.int .i64 x, .int .i64 y, .slice A n c] 80)).alloc (.cells #[.int .i64 0, .int .i64 0, .slice none 0 0] 53)).alloc (.cells #[.int .i64 x, .int .i64 y, .slice none 0 0] 53)) = w1 at *
  have y2 := box_below x2 hb2
  have y3 := box_below x3 hb2
  have hs2 := hb2.size
  have c30 := box_cell y3 0 (.int .i64 x) rfl
  have c31 := box_cell y3 1 (.int .i64 y) rfl
  have c32 := box_cell y3 2 (.slice none 0 0) rfl
  have c20 := box_cell y2 0 (.int .i64 0) rfl
  have c21 := box_cell y2 1 (.int .i64 0) rfl
  have c22 := box_cell y2 2 (.slice none 0 0) rfl
  have f32 := box_free y3 2
  have f20 := box_free y2 0
  have f21 := box_free y2 1
  have f22 := box_free y2 2
  have HO := Lib.hid o2
  have HB := Lib.hid (b0.trans (hb2.mono b0.size))
  clear x1 x2 x3 o2 hb2 y2 y3 b0
  go_wp2
  have g32 : w.heap.size + 1 + 1 < w1.heap.size := by rw [HS.out]; omega
  refine bodyPost_ret (v := .agg #[.int .i64 x, .int .i64 y, .slice V n c']) (by simp [results, Try.results60, go_sem, c20, c21, c22]) rfl ⟨V, c', rfl, ?_, (((HB.out.setCell (by simp; omega) _).setCell (by simp) _).setCell (by simp) _).setCell (by simp) _⟩
  have hk := ((((Chg.refl (w.heap.size + 1) (w.heap.size + 1 + 1 + 1) w2).set (g := w.heap.size + 1 + 1) (i := 2) (v := .slice V n c') (by omega) (by omega)).set (g := w.heap.size + 1) (i := 0) (v := .int .i64 x) (by omega) (by omega)).set (g := w.heap.size + 1) (i := 1) (v := .int .i64 y) (by omega) (by omega)).set (g := w.heap.size + 1) (i := 2) (v := .slice V n c') (by omega) (by omega)
  exact (HO.out.chg hk (.inr (by omega))).fit (by omega)

/-- A row of records of the call's own, in blocks from lo on and below hi. -/
structure OwnRc (w : World) (lo hi : Nat) (A : Option Addr) (n c : Nat) (rs : List RecD) : Prop where
  len : rs.length = n
  cells : ∃ ys, w.ownsRow lo 53 3 (.slice A n c) n ys ∧ (∀ j, j < n → ys[j * 3]? = some (.int .i64 (rA rs j)) ∧ ys[j * 3 + 1]? = some (.int .i64 (rH rs j))) ∧ Sub w lo hi ys 3 2 (rV rs) 0 n
  top : ∀ k, rowOf A = some k → k < hi
  small : n ≤ 1099511627776

section
variable {w w' : World} {A : Option Addr} {n c lo hi : Nat} {rs : List RecD}
theorem row_keep {T : TypeId} {sz : Nat} {ys : List Value} (h : w.ownsRow lo T sz (.slice A n c) n ys) (hk : ∀ g, lo ≤ g → rowOf A = some g → g < w.heap.size → w'.heap[g]? = w.heap[g]?) : w'.ownsRow lo T sz (.slice A n c) n ys := by
  refine ⟨h.1, ?_⟩
  rcases h.2 with h0 | ⟨g, cap, cur, hv, hb, hg, hr⟩
  · exact .inl h0
  · refine .inr ⟨g, cap, cur, hv, hb, ?_, hr⟩
    injection hv with hA
    rw [hk g hb (by rw [hA]; rfl) (lt_of_block hg)]
    exact hg
theorem OwnRc.keep (h : OwnRc w lo hi A n c rs) (hk : ∀ g, lo ≤ g → g < hi → g < w.heap.size → w'.heap[g]? = w.heap[g]?) : OwnRc w' lo hi A n c rs := by
  obtain ⟨ys, h1, h2, h3⟩ := h.cells
  exact ⟨h.len, ⟨ys, row_keep h1 fun g hl hA hg => hk g hl (h.top g hA) hg, h2, h3.keep hk⟩, h.top, h.small⟩
theorem OwnRc.below (h : OwnRc w lo hi A n c rs) (hb : Below w.heap.size w w') : OwnRc w' lo hi A n c rs := h.keep fun g _ _ hg => hb.block g hg
theorem OwnRc.chg {lo' hi' : Nat} (h : OwnRc w lo hi A n c rs) (hc : Chg lo' hi' w w') (hd : hi ≤ lo' ∨ hi' ≤ lo) : OwnRc w' lo hi A n c rs := h.keep fun g h1 h2 hg => hc.block g hg (by omega)
theorem OwnRc.recs (h : OwnRc w lo hi A n c rs) : RecsR w A n rs := by
  refine ⟨h.len, fun hn => ?_⟩
  obtain ⟨ys, ho, hf, hs⟩ := h.cells
  rcases ho.2 with ⟨_, h0⟩ | ⟨g, cap, cur, hv, _⟩
  · omega
  · injection hv with hA _ hc
    subst hA hc
    have hl := ho.1
    refine ⟨_, rfl, fun j hj => ?_⟩
    rw [addr_add0]
    obtain ⟨V, m, e2, hV⟩ := hs.row j (by omega) hj
    have := hf j hj
    exact ⟨(World.ownsRow.cellAt ho (j * 3) (by omega)).trans this.1, (World.ownsRow.cellAt ho (j * 3 + 1) (by omega)).trans this.2, V, _, m, (World.ownsRow.cellAt ho (j * 3 + 2) (by omega)).trans e2, hV.ints⟩
theorem OwnRc.drewN (h : OwnRc w lo hi A n c rs) (q : Nat) : OwnRc (w.drewN q) lo hi A n c rs := h.keep fun _ _ _ _ => rfl
end
theorem Try.infoRecord : (Try.prog.info? 53).map (fun i => (i.zero, i.size, i.bytes)) = some (some (.agg #[.int .i64 0, .int .i64 0, .slice none 0 0]), 3, 40) := by kernel_rfl

/-- The cells ys agree with the records' numbers below k; the rows from k on are nil. -/
def AgreeR (rs : List RecD) (ys : List Value) (n k : Nat) : Prop := ys.length = n * 3 ∧ (∀ t, t < k → ys[t * 3]? = some (.int .i64 (rA rs t)) ∧ ys[t * 3 + 1]? = some (.int .i64 (rH rs t))) ∧ ∀ t, k ≤ t → t < n → ys[t * 3 + 2]? = some (.slice none 0 0)
def upTo (L : Nat → List Int) (k : Nat) : Nat → List Int := fun j => if j < k then L j else []
theorem upTo_step (L : Nat → List Int) (k : Nat) : upd (upTo L k) k (L k) = upTo L (k + 1) := by
  funext j
  unfold upd upTo
  by_cases h : j = k
  · subst h; simp
  · by_cases h2 : j < k
    · simp [h, h2, Nat.lt_succ_of_lt h2]
    · have : ¬ j < k + 1 := by omega
      simp [h, h2, this]
theorem AgreeR.step {rs : List RecD} {ys : List Value} {n k : Nat} (h : AgreeR rs ys n k) (hk : k < n) (v : Value) : AgreeR rs (((ys.set (k * 3) (.int .i64 (rA rs k))).set (k * 3 + 1) (.int .i64 (rH rs k))).set (k * 3 + 2) v) n (k + 1) := by
  obtain ⟨h1, h2, h3⟩ := h
  refine ⟨by simpa using h1, fun t ht => ?_, fun t ht hn => ?_⟩
  · rw [List.getElem?_set_ne (by omega), List.getElem?_set_ne (i := k * 3 + 2) (by omega)]
    by_cases e : t = k
    · subst e
      rw [List.getElem?_set_ne (by omega), List.getElem?_set_self (by omega), List.getElem?_set_self (by simp; omega)]
      exact ⟨rfl, rfl⟩
    · rw [List.getElem?_set_ne (by omega), List.getElem?_set_ne (by omega), List.getElem?_set_ne (by omega), List.getElem?_set_ne (by omega)]
      exact h2 t (by omega)
  · rw [List.getElem?_set_ne (by omega), List.getElem?_set_ne (by omega), List.getElem?_set_ne (by omega)]
    exact h3 t (by omega) hn
theorem made_at (z : Array Value) (N i : Nat) (h : i < N) : (madeCells z N).toList[i]? = some z[i % z.size]! := by
  simp [madeCells, h]
theorem madeRecs (n : Nat) : ∀ t, t < n → (madeCells (Value.agg #[.int .i64 0, .int .i64 0, .slice none 0 0]).cells (n * 3)).toList[t * 3 + 2]? = some (.slice none 0 0) := fun t ht => by
  rw [made_at _ _ _ (by omega)]
  have : (t * 3 + 2) % 3 = 2 := by omega
  simp [Value.cells, this]

theorem Sub.farRow {w : World} {lo hi lo2 g i st pos k n m c sz : Nat} {ys zs : List Value} {L : Nat → List Int} {v : Value} {T : TypeId} (h : Sub w lo hi ys st pos L k n) (ho : w.ownsRow lo2 T sz (.slice (some ⟨g, 0, none⟩) m c) m zs) (hT : T ≠ 3) :
    Sub (w.setCell ⟨g, i, none⟩ v) lo hi ys st pos L k n := by
  rcases ho.2 with ⟨h0, _⟩ | ⟨g', cap, cur, hv, _, hg, _⟩
  · cases h0
  · injection hv with hv
    injection hv with hv
    injection hv with hv
    subst hv
    exact h.far hg hT
theorem row_three {w : World} {lo n c g k : Nat} {T : TypeId} {ys : List Value} (h : w.ownsRow lo T 3 (.slice (some ⟨g, 0, none⟩) n c) n ys) (hk : k < n) :
    (∃ u, w.cell? ⟨g, k * 3, none⟩ = some u) ∧ (∃ u, w.cell? ⟨g, k * 3 + 1, none⟩ = some u) ∧ (∃ u, w.cell? ⟨g, k * 3 + 2, none⟩ = some u) ∧ w.frozen? ⟨g, k * 3, none⟩ = false ∧ w.frozen? ⟨g, k * 3 + 1, none⟩ = false ∧ w.frozen? ⟨g, k * 3 + 2, none⟩ = false := by
  have hl := h.1
  refine ⟨⟨ys[k * 3]'(by omega), ?_⟩, ⟨ys[k * 3 + 1]'(by omega), ?_⟩, ⟨ys[k * 3 + 2]'(by omega), ?_⟩, World.ownsRow.frozenAt h _, World.ownsRow.frozenAt h _, World.ownsRow.frozenAt h _⟩
  · rw [World.ownsRow.cellAt h _ (by omega), List.getElem?_eq_getElem]
  · rw [World.ownsRow.cellAt h _ (by omega), List.getElem?_eq_getElem]
  · rw [World.ownsRow.cellAt h _ (by omega), List.getElem?_eq_getElem]
theorem grown_none {w w' : World} (h : Below w.heap.size w w') (r : Option Nat) : w.grownBy w' r := ⟨h.os, h.tape, h.output, h.size, fun k hk _ => h.block k hk⟩

/-- One round of the turning of records. -/
theorem recs_step {wr w2 : World} {lo k n V2n c2 g : Nat} {V2 : Option Addr} {rs : List RecD} {ys : List Value} (hag : AgreeR rs ys n k) (ho : wr.ownsRow lo 53 3 (.slice (some ⟨g, 0, none⟩) n n) n ys) (hs : Sub wr lo wr.heap.size ys 3 2 (upTo (rV rs) k) 0 n)
    (hlo : lo ≤ wr.heap.size) (hk : k < n) (hb : Below wr.heap.size wr w2) (hV : (rV rs k).length = V2n) (hv : OwnI w2 wr.heap.size w2.heap.size V2 V2n c2 (rV rs k)) :
    ∃ zs, AgreeR rs zs n (k + 1) ∧ (((w2.setCell ⟨g, k * 3, none⟩ (.int .i64 (rA rs k))).setCell ⟨g, k * 3 + 1, none⟩ (.int .i64 (rH rs k))).setCell ⟨g, k * 3 + 2, none⟩ (.slice V2 V2n c2)).ownsRow lo 53 3 (.slice (some ⟨g, 0, none⟩) n n) n zs ∧
      Sub (((w2.setCell ⟨g, k * 3, none⟩ (.int .i64 (rA rs k))).setCell ⟨g, k * 3 + 1, none⟩ (.int .i64 (rH rs k))).setCell ⟨g, k * 3 + 2, none⟩ (.slice V2 V2n c2)) lo w2.heap.size zs 3 2 (upTo (rV rs) (k + 1)) 0 n := by
  subst hV
  have o2 := row_below ho hb
  have s2 := hs.set (V2 := V2) (c2 := c2) (l := rV rs k) (i := k) (w' := w2) (by omega) hk hag.1 (hag.2.2 k (Nat.le_refl _) hk) (grown_none hb _) (hv.own.mono hlo) hv.small (by
    cases e : rowOf V2 with
    | none => exact .inl rfl
    | some b => exact .inr (.inr ⟨b, rfl, (hv.own.row_ge b e).1⟩))
  rw [upTo_step] at s2
  have a1 := (World.ownsRow.stored o2 (k * 3) (.int .i64 (rA rs k))).1
  have a2 := (World.ownsRow.stored a1 (k * 3 + 1) (.int .i64 (rH rs k))).1
  have a3 := (World.ownsRow.stored a2 (k * 3 + 2) (.slice V2 (rV rs k).length c2)).1
  refine ⟨_, hag.step hk _, a3, ?_⟩
  refine (((s2.farRow o2 (by decide)).farRow a1 (by decide)).farRow a2 (by decide)).cells fun j _ hj => ?_
  by_cases e : j = k
  · subst e
    have := hag.1
    rw [List.getElem?_set_self (by simp; omega), List.getElem?_set_self (by omega)]
  · rw [List.getElem?_set_ne (by omega), List.getElem?_set_ne (by omega), List.getElem?_set_ne (by omega), List.getElem?_set_ne (by omega)]

set_option maxHeartbeats 800000 in
theorem toRecordS_law (A : Option Addr) (n c : Nat) (rs : List RecD) (w : World) (hx : RecsR w A n rs) (hn : n ≤ 1099511627776) (hs : ∀ j, j < n → (rV rs j).length ≤ 1099511627776) :
    Calls Try.prog 12 #[.slice A n c] w fun e w' => ∃ A' c', e = .returned (.slice A' n c') ∧ OwnRc w' w.heap.size w'.heap.size A' n c' rs ∧ Below w.heap.size w w' := by
  obtain ⟨i0, hi, hz0, hz1, hz2⟩ := info_parts Try.infoRecord
  go_enter Try.func12, Try.ntmps12
  go_wp2_with (at_make; refine wpList_make_full _ rfl _ _ 37 rfl w.heap.size 53 i0 _ 3 Try.underlying37 hi hz0 hz1 .i64 .i64 _ _ n rfl rfl rfl rfl (by rw [hz2]; omega) (by unfold maxLen; omega) (Nat.le_refl _) ?_; intro w1 hown hg)
  have hA : AgreeR rs (madeCells (Value.agg #[.int .i64 0, .int .i64 0, .slice none 0 0]).cells (n * 3)).toList n 0 := ⟨hown.1, fun t ht => absurd ht (by omega), fun t _ ht => madeRecs n t ht⟩
  generalize (madeCells (Value.agg #[.int .i64 0, .int .i64 0, .slice none 0 0]).cells (n * 3)).toList = y0 at *
  have hb1 : Below w.heap.size w w1 := (Below.refl _ _).grown hg (Nat.le_refl _) (by simp)
  have hS : Sub w1 w.heap.size w1.heap.size y0 3 2 (upTo (rV rs) 0) 0 n := Sub.nils (fun j hj => hA.2.2 j (Nat.zero_le _) hj) (fun j _ => by simp [upTo])
  clear hg hi hz0 hz1 hz2
  go_loopw [4] (fun i wr => ∃ (k : Nat) (ys : List Value), k ≤ n ∧ i = .int .i64 k ∧ AgreeR rs ys n k ∧ wr.ownsRow w.heap.size 53 3 (.slice (some ⟨w.heap.size, 0, none⟩) n n) n ys ∧ Sub wr w.heap.size wr.heap.size ys 3 2 (upTo (rV rs) k) 0 n ∧ Below w.heap.size w wr) (fun i _ => n - (intOf i).toNat)
  case atStart => exact ⟨0, _, Nat.zero_le _, rfl, hA, hown, hS, hb1⟩
  case round =>
    clear hA hown hb1 hS
    obtain ⟨k, ys, hk, rfl, hag, hown, hsub, hbw⟩ := hrel
    by_cases hlt : k < n
    · obtain ⟨ad, rfl, hc, hc', V, m, cc, hc'', hv⟩ := (hx.below hbw).at_ hlt
      have hm : m ≤ 1099511627776 := by have := hs k hlt; rw [hv.1] at this; exact this
      have R1 := Lib.hid (fun w2 V2 c2 (hb : Below wr.heap.size wr w2) => recs_step (V2n := m) (c2 := c2) (V2 := V2) hag hown hsub hbw.size hlt hb hv.1)
      have HO := Lib.hid hown
      have HB := Lib.hid hbw
      have HV := Lib.hid hv
      clear hx hag hown hbw hsub hv hs
      obtain ⟨x, hxe⟩ : ∃ x, rA rs k = x := ⟨_, rfl⟩
      obtain ⟨y, hye⟩ : ∃ y, rH rs k = y := ⟨_, rfl⟩
      rw [hxe] at hc R1
      rw [hye] at hc' R1
      clear hxe hye
      go_wp2_with (go_at_call 60; refine (toRecord_any x y V m cc (rV rs k) _ HV.out hm).mono ?_; rintro e w2 ⟨V2, c2, rfl, o2, hb2⟩; obtain ⟨zs, r1, r2, r3⟩ := R1.out w2 V2 c2 hb2 o2; have R2 := Lib.hid r1; have R3 := Lib.hid r2; have R4 := Lib.hid r3; have R5 := Lib.hid (HB.out.trans (hb2.mono HB.out.size)); have R6 := Lib.hid (row_below HO.out hb2); obtain ⟨⟨u0, hu0⟩, ⟨u1, hu1⟩, ⟨u2, hu2⟩, hf0, hf1, hf2⟩ := row_three R6.out hlt; clear r1 r2 r3 o2 hb2)
      go_roundw
      case rel => exact ⟨k + 1, zs, by omega, by go_num, R2.out, R3.out, (R4.out.fit (Nat.le_refl _)), ((R5.out.setCell (Nat.le_refl _) _).setCell (Nat.le_refl _) _).setCell (Nat.le_refl _) _⟩
      case measure => simp [intOf]; omega
    · obtain rfl : k = n := by omega
      go_wp2
      go_ret
      refine ⟨_, _, rfl, ⟨hx.1, ⟨ys, hown, hag.2.1, hsub.fn fun j _ hj => by simp [upTo, hj]⟩, fun g hg => (World.ownsRow.lt hown g (by simpa [rowOf, Value.ownBlock] using hg)).2, hn⟩, hbw⟩
end Go.Proofs.Ytgeilnkglbcmeaa
