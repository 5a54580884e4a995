/- Several small texts in one: Same, Sets, SetsL, LawU. -/
import Derived.Test.YtgeilnkglbcmeaaGreatZf
import Derived.Test.YtgeilnkglbcmeaaGreatCut
import Derived.Deep.RegionHeld3
namespace Go.Proofs.YtgeilnkglbcmeaaGreat

section
open Go.RowKit

def sameB (x k x2 k2 : Int) : Bool := (x == x2) && (k == k2)

set_option maxHeartbeats 2000000 in
theorem sameClass_any (A V V2 U : Option Addr) (n c m d m2 d2 l k' : Nat) (x y x2 y2 : Int) (vs : List (ByteArray × Int)) (xs xs2 us : List Int) (w : World) (hx : SchR w A n c vs) (hy : IntR w V m xs) (hz : IntR w V2 m2 xs2) (hu : IntR w U l us) (hk : KeyOk vs xs us n) (hk2 : KeyOk vs xs2 us n) :
    Calls Tryz.prog 49 #[.slice A n c, .agg #[.int .i64 x, .int .i64 y, .slice V m d], .agg #[.int .i64 x2, .int .i64 y2, .slice V2 m2 d2], .slice U l k'] w fun e w' => e = .returned (.bool (sameB x (keyV vs xs us) x2 (keyV vs xs2 us))) ∧ Below w.heap.size w w' := by
  obtain ⟨b0, x0, x1⟩ := box_two w #[.int .i64 x, .int .i64 y, .slice V m d] #[.int .i64 x2, .int .i64 y2, .slice V2 m2 d2] 53 53
  have c0 := box_cell x0 0 (.int .i64 x) rfl
  have c1 := box_cell x0 1 (.int .i64 y) rfl
  have c2 := box_cell x0 2 (.slice V m d) rfl
  have d0 := box_cell x1 0 (.int .i64 x2) rfl
  have d1 := box_cell x1 1 (.int .i64 y2) rfl
  have d2' := box_cell x1 2 (.slice V2 m2 d2) rfl
  replace hx := hx.below b0
  replace hy := hy.below b0
  replace hz := hz.below b0
  replace hu := hu.below b0
  cases hA : x == x2
  · have R := Lib.hid (show false = sameB x (keyV vs xs us) x2 (keyV vs xs2 us) by unfold sameB; rw [hA]; rfl)
    clear hx hy hz hu x0 x1
    go_enter Tryz.func49, Tryz.ntmps49
    go_wp2
    go_quiet (fail)
    go_wp2
    go_ret
    exact ⟨ret_bool R.out, below_drewN b0 _⟩
  · have R := Lib.hid (show (keyV vs xs us == keyV vs xs2 us) = sameB x (keyV vs xs us) x2 (keyV vs xs2 us) by unfold sameB; rw [hA, Bool.true_and])
    go_enter Tryz.func49, Tryz.ntmps49
    go_wp2
    generalize (w.alloc (.cells #[.int .i64 x, .int .i64 y, .slice V m d] 53)).alloc (.cells #[.int .i64 x2, .int .i64 y2, .slice V2 m2 d2] 53) = w0 at *
    have B0 := b0.drew
    have X0 : SchR w0.drew A n c vs := ⟨hx.v, hx.s, hx.bd, hx.cp⟩
    have Y0 : IntR w0.drew V m xs := ⟨hy.i, hy.bd⟩
    have Z0 : IntR w0.drew V2 m2 xs2 := ⟨hz.i, hz.bd⟩
    have U0 : IntR w0.drew U l us := ⟨hu.i, hu.bd⟩
    have p0 : w0.drew.heap[w.heap.size]? = _ := x0
    have q0 : w0.drew.heap[w.heap.size + 1]? = _ := x1
    go_region_held3 (fun w' => w'.cell? ⟨w.heap.size, 0, none⟩ = some (.int .i64 x) ∧ w'.cell? ⟨w.heap.size, 1, none⟩ = some (.int .i64 y) ∧ w'.cell? ⟨w.heap.size, 2, none⟩ = some (.slice V m d) ∧ w'.cell? ⟨w.heap.size + 1, 0, none⟩ = some (.int .i64 x2) ∧ w'.cell? ⟨w.heap.size + 1, 1, none⟩ = some (.int .i64 y2) ∧ w'.cell? ⟨w.heap.size + 1, 2, none⟩ = some (.slice V2 m2 d2)) (go_keep)
      ((go_at_call 69; refine (keyOf_any _ _ _ n _ _ _ l _ _ _ vs _ us _ (by first | exact X1 | exact X0) (by first | exact Y1 | exact Z1 | exact Y0 | exact Z0) (by first | exact U1 | exact U0) (by first | exact hk | exact hk2)).mono ?_; rintro e w1 ⟨rfl, b1⟩; (first | (have X2 := X1.below b1; have B2 := keepB B1 (Nat.le_refl _) b1; have p2 := box_below p1 b1; have q2 := box_below q1 b1; have e0 := box_cell p2 0 (.int .i64 x) rfl; have e1 := box_cell p2 1 (.int .i64 y) rfl; have e2 := box_cell p2 2 (.slice V m d) rfl; have f0 := box_cell q2 0 (.int .i64 x2) rfl; have f1 := box_cell q2 1 (.int .i64 y2) rfl; have f2 := box_cell q2 2 (.slice V2 m2 d2) rfl) | (have X1 := X0.below b1; have Y1 := Y0.below b1; have Z1 := Z0.below b1; have U1 := U0.below b1; have B1 := keepB B0 (Nat.le_refl _) b1; have p1 := box_below p0 b1; have q1 := box_below q0 b1; have e0 := box_cell p1 0 (.int .i64 x) rfl; have e1 := box_cell p1 1 (.int .i64 y) rfl; have e2 := box_cell p1 2 (.slice V m d) rfl; have f0 := box_cell q1 0 (.int .i64 x2) rfl; have f1 := box_cell q1 1 (.int .i64 y2) rfl; have f2 := box_cell q1 2 (.slice V2 m2 d2) rfl))))
    all_goals (go_wp2; go_ret; exact ⟨ret_bool R.out, B2⟩)

set_option maxHeartbeats 2000000 in
theorem liSame_any (A V V2 U : Option Addr) (n c m d m2 d2 l k' : Nat) (x y x2 y2 : Int) (vs : List (ByteArray × Int)) (xs xs2 us : List Int) (w : World) (hx : SchR w A n c vs) (hy : IntR w V m xs) (hz : IntR w V2 m2 xs2) (hu : IntR w U l us) (hk : KeyOk vs xs us n) (hk2 : KeyOk vs xs2 us n) :
    Calls Tryz.prog 58 #[.slice A n c, .agg #[.int .i64 x, .int .i64 y, .slice V m d], .agg #[.int .i64 x2, .int .i64 y2, .slice V2 m2 d2], .slice U l k'] w fun e w' => e = .returned (.bool (sameB x (keyV vs xs us) x2 (keyV vs xs2 us))) ∧ Below w.heap.size w w' := by
  obtain ⟨b0, x0, x1⟩ := box_two w #[.int .i64 x, .int .i64 y, .slice V m d] #[.int .i64 x2, .int .i64 y2, .slice V2 m2 d2] 53 53
  have c0 := box_cell x0 0 (.int .i64 x) rfl
  have c2 := box_cell x0 2 (.slice V m d) rfl
  have d0 := box_cell x1 0 (.int .i64 x2) rfl
  have d2' := box_cell x1 2 (.slice V2 m2 d2) rfl
  replace hx := hx.below b0
  replace hy := hy.below b0
  replace hz := hz.below b0
  replace hu := hu.below b0
  cases hA : x == x2
  · have R := Lib.hid (show false = sameB x (keyV vs xs us) x2 (keyV vs xs2 us) by unfold sameB; rw [hA]; rfl)
    clear hx hy hz hu x0 x1
    go_enter Tryz.func58, Tryz.ntmps58
    go_wp2
    go_quiet (fail)
    go_wp2
    go_ret
    exact ⟨ret_bool R.out, below_drewN b0 _⟩
  · have R := Lib.hid (show (keyV vs xs us == keyV vs xs2 us) = sameB x (keyV vs xs us) x2 (keyV vs xs2 us) by unfold sameB; rw [hA, Bool.true_and])
    go_enter Tryz.func58, Tryz.ntmps58
    go_wp2
    generalize (w.alloc (.cells #[.int .i64 x, .int .i64 y, .slice V m d] 53)).alloc (.cells #[.int .i64 x2, .int .i64 y2, .slice V2 m2 d2] 53) = w0 at *
    have B0 := b0.drew
    have X0 : SchR w0.drew A n c vs := ⟨hx.v, hx.s, hx.bd, hx.cp⟩
    have Y0 : IntR w0.drew V m xs := ⟨hy.i, hy.bd⟩
    have Z0 : IntR w0.drew V2 m2 xs2 := ⟨hz.i, hz.bd⟩
    have U0 : IntR w0.drew U l us := ⟨hu.i, hu.bd⟩
    have p0 : w0.drew.heap[w.heap.size]? = _ := x0
    have q0 : w0.drew.heap[w.heap.size + 1]? = _ := x1
    go_region_held3 (fun w' => w'.cell? ⟨w.heap.size, 0, none⟩ = some (.int .i64 x) ∧ w'.cell? ⟨w.heap.size, 2, none⟩ = some (.slice V m d) ∧ w'.cell? ⟨w.heap.size + 1, 0, none⟩ = some (.int .i64 x2) ∧ w'.cell? ⟨w.heap.size + 1, 2, none⟩ = some (.slice V2 m2 d2)) (go_keep)
      ((go_at_call 77; refine (swKey_any _ _ _ n _ _ _ l _ vs _ us _ (by first | exact X1 | exact X0) (by first | exact Y1 | exact Z1 | exact Y0 | exact Z0) (by first | exact U1 | exact U0) (by first | exact hk | exact hk2)).mono ?_; rintro e w1 ⟨rfl, b1⟩; (first | (have X2 := X1.below b1; have B2 := keepB B1 (Nat.le_refl _) b1; have p2 := box_below p1 b1; have q2 := box_below q1 b1; have e0 := box_cell p2 0 (.int .i64 x) rfl; have e2 := box_cell p2 2 (.slice V m d) rfl; have f0 := box_cell q2 0 (.int .i64 x2) rfl; have f2 := box_cell q2 2 (.slice V2 m2 d2) rfl) | (have X1 := X0.below b1; have Y1 := Y0.below b1; have Z1 := Z0.below b1; have U1 := U0.below b1; have B1 := keepB B0 (Nat.le_refl _) b1; have p1 := box_below p0 b1; have q1 := box_below q0 b1; have e0 := box_cell p1 0 (.int .i64 x) rfl; have e2 := box_cell p1 2 (.slice V m d) rfl; have f0 := box_cell q1 0 (.int .i64 x2) rfl; have f2 := box_cell q1 2 (.slice V2 m2 d2) rfl))))
    all_goals (go_wp2; go_ret; exact ⟨ret_bool R.out, B2⟩)
end

section
open Go.RowKit

/-- A row of rows of ints of the call's own, in blocks from lo on and below hi. -/
structure OwnII (w : World) (lo hi : Nat) (A : Option Addr) (n c : Nat) (L : Nat → List Int) : Prop where
  cells : ∃ ys, w.ownsRow lo 26 1 (.slice A n c) n ys ∧ Sub w lo hi ys 1 0 L 0 n
  top : ∀ k, rowOf A = some k → k < hi
  small : n ≤ 1099511627776
section
variable {w w' : World} {A : Option Addr} {n c lo hi : Nat} {L : Nat → List Int}
theorem OwnII.keep (h : OwnII w lo hi A n c L) (hk : ∀ g, lo ≤ g → g < hi → g < w.heap.size → w'.heap[g]? = w.heap[g]?) : OwnII w' lo hi A n c L := by
  obtain ⟨ys, h1, h3⟩ := h.cells
  exact ⟨⟨ys, row_keep h1 fun g hl hA hg => hk g hl (h.top g hA) hg, h3.keep hk⟩, h.top, h.small⟩
theorem OwnII.below (h : OwnII w lo hi A n c L) (hb : Below w.heap.size w w') : OwnII w' lo hi A n c L := h.keep fun g _ _ hg => hb.block g hg
theorem OwnII.chg {lo' hi' : Nat} (h : OwnII w lo hi A n c L) (hc : Chg lo' hi' w w') (hd : hi ≤ lo' ∨ hi' ≤ lo) : OwnII w' lo hi A n c L := h.keep fun g h1 h2 hg => hc.block g hg (by omega)
theorem OwnII.drewN (h : OwnII w lo hi A n c L) (q : Nat) : OwnII (w.drewN q) lo hi A n c L := h.keep fun _ _ _ _ => rfl
/-- What it reads as. -/
def IntsS (w : World) (A : Option Addr) (n : Nat) (L : Nat → List Int) : Prop :=
  0 < n → ∃ ad, A = some ad ∧ ∀ j, j < n → ∃ V c, w.cell? (ad.add j) = some (.slice V (L j).length c) ∧ Ints w V (L j).length (L j)
theorem IntsS.at_ {k : Nat} (h : IntsS w A n L) (hk : k < n) : ∃ ad, A = some ad ∧ ∃ V c, w.cell? (ad.add k) = some (.slice V (L k).length c) ∧ Ints w V (L k).length (L k) := by
  obtain ⟨ad, e, hc⟩ := h (by omega)
  exact ⟨ad, e, hc k hk⟩
theorem IntsS.below (h : IntsS w A n L) (hb : Below w.heap.size w w') : IntsS w' A n L := fun hn => by
  obtain ⟨ad, e, hc⟩ := h hn
  refine ⟨ad, e, fun j hj => ?_⟩
  obtain ⟨V, c, c0, hi⟩ := hc j hj
  exact ⟨V, c, (hb.cell (block_lt_of_cell c0)).trans c0, hi.below hb⟩
theorem OwnII.read (h : OwnII w lo hi A n c L) : IntsS w A n L := fun hn => by
  obtain ⟨ys, ho, hs⟩ := h.cells
  obtain ⟨g, rfl, _, _⟩ := row_head ho hn
  have hl := ho.1
  refine ⟨_, rfl, fun j hj => ?_⟩
  rw [addr_add0]
  obtain ⟨V, m, e2, hV⟩ := hs.row j (by omega) hj
  rw [Nat.mul_one, Nat.add_zero] at e2
  exact ⟨V, m, (World.ownsRow.cellAt ho j (by omega)).trans e2, hV.ints⟩
end
theorem Tryz.infoIntS : (Tryz.prog.info? 26).map (fun i => (i.zero, i.size, i.bytes)) = some (some (.slice none 0 0), 1, 24) := by kernel_rfl
theorem madeRows (n : Nat) : ∀ t, t < n → (madeCells (Value.slice none 0 0).cells (n * 1)).toList[t * 1 + 0]? = some (.slice none 0 0) := fun t ht => by
  rw [made_at _ _ _ (by omega)]
  simp [Value.cells, Nat.mod_one]
/-- The i-th row becomes another, and the outer row's cell with it. -/
theorem sets_step {wr w2 : World} {lo g n c0 i m c c2 : Nat} {V V2 : Option Addr} {ys : List Value} {L : Nat → List Int} {l : List Int} (ho : wr.ownsRow lo 26 1 (.slice (some ⟨g, 0, none⟩) n c0) n ys) (hs : Sub wr lo wr.heap.size ys 1 0 L 0 n) (hi : i < n)
    (hV : ys[i]? = some (.slice V m c)) (hg : wr.grownBy w2 (rowOf V)) (hown : Own w2 lo V2 l.length c2 l) (hsm : l.length ≤ 1099511627776) (hb : rowOf V2 = none ∨ rowOf V2 = rowOf V ∨ ∃ b, rowOf V2 = some b ∧ wr.heap.size ≤ b) :
    (w2.setCell ⟨g, i, none⟩ (.slice V2 l.length c2)).ownsRow lo 26 1 (.slice (some ⟨g, 0, none⟩) n c0) n (ys.set i (.slice V2 l.length c2)) ∧
      Sub (w2.setCell ⟨g, i, none⟩ (.slice V2 l.length c2)) lo w2.heap.size (ys.set i (.slice V2 l.length c2)) 1 0 (upd L i l) 0 n := by
  have e1 : i * 1 + 0 = i := by omega
  obtain ⟨V', c', e', hV'⟩ := hs.row i (Nat.zero_le _) hi
  have e'' := e'
  rw [e1, hV] at e''
  simp only [Option.some.injEq, Value.slice.injEq] at e''
  obtain ⟨rfl, em, rfl⟩ := e''
  have o2 : w2.ownsRow lo 26 1 (.slice (some ⟨g, 0, none⟩) n c0) n ys := World.ownsRow.kept ho hg (.inr (fun e => row_ne hV'.own ho (by decide) e.symm))
  have s2 := hs.set (V2 := V2) (c2 := c2) (l := l) (i := i) (w' := w2) (by omega) hi ho.1 (by rw [e1]; exact hV) hg hown hsm hb
  rw [e1] at s2
  exact ⟨(World.ownsRow.stored o2 i (.slice V2 l.length c2)).1, s2.farRow o2 (by decide)⟩

theorem own_box_ne {w : World} {B n c b : Nat} {V : Option Addr} {xs : List Int} {cs : Array Value} {T : TypeId} (ho : Own w B V n c xs) (h : w.heap[b]? = some (.cells cs T (0, 0))) (hT : T ≠ 3) : rowOf V ≠ some b := by
  intro e
  rcases ho.2 with ⟨h0, _⟩ | ⟨b', cap', cur', hv', _, hh, _⟩
  · injection h0 with h0; subst h0; cases e
  · injection hv' with hv'
    subst hv'
    simp only [rowOf, Option.some.injEq] at e
    subst e
    rw [h] at hh
    injection hh with hh
    injection hh with _ hh
    exact hT hh
theorem RecsR.later {w w' : World} {A : Option Addr} {n k : Nat} {rs : List RecD} (h : RecsR w A n rs) (hb : Below w.heap.size w w') (hk : k < n) : ∃ ad, A = some ad ∧ w'.cell? (ad.add (k * 3)) = some (.int .i64 (rA rs k)) ∧ w'.cell? ⟨(ad.add (k * 3)).block, (ad.add (k * 3)).off + 1, none⟩ = some (.int .i64 (rH rs k)) ∧
    ∃ V m c, w'.cell? ⟨(ad.add (k * 3)).block, (ad.add (k * 3)).off + 2, none⟩ = some (.slice V m c) ∧ Ints w V m (rV rs k) := by
  obtain ⟨ad, e, c0, c1, V, m, c, c2, hv⟩ := h.at_ hk
  exact ⟨ad, e, (hb.cell (block_lt_of_cell c0)).trans c0, (hb.cell (block_lt_of_cell c1)).trans c1, V, m, c, (hb.cell (block_lt_of_cell c2)).trans c2, hv⟩

/-- The indices below k that pass, in order. -/
def linkK (p : Nat → Bool) (k : Nat) : List Int := ((List.range k).filter p).map fun (i : Nat) => (i : Int)
theorem linkK_yes {p : Nat → Bool} {k : Nat} (h : p k = true) : linkK p (k + 1) = linkK p k ++ [(k : Int)] := by simp [linkK, List.range_succ, h]
theorem linkK_no {p : Nat → Bool} {k : Nat} (h : p k = false) : linkK p (k + 1) = linkK p k := by simp [linkK, List.range_succ, h]
theorem linkK_len (p : Nat → Bool) (k : Nat) : (linkK p k).length ≤ k := by
  have := List.length_filter_le p (List.range k)
  simpa [linkK] using this
/-- The i-th record of rs and the k-th of qs are of one class. -/
def lnk (vs : List (ByteArray × Int)) (us : List Int) (rs qs : List RecD) (i k : Nat) : Bool := sameB (rA rs i) (keyV vs (rV rs i) us) (rA qs k) (keyV vs (rV qs k) us)
def setL (vs : List (ByteArray × Int)) (us : List Int) (rs qs : List RecD) (i : Nat) : List Int := linkK (lnk vs us rs qs i) qs.length
/-- The sets behind i whole rounds and j steps of the next. -/
def midL (vs : List (ByteArray × Int)) (us : List Int) (rs qs : List RecD) (i j : Nat) : Nat → List Int := fun t => if t < i then setL vs us rs qs t else if t = i then linkK (lnk vs us rs qs i) j else []
theorem midL_at (vs : List (ByteArray × Int)) (us : List Int) (rs qs : List RecD) (i j : Nat) : midL vs us rs qs i j i = linkK (lnk vs us rs qs i) j := by simp [midL]
theorem midL_yes {vs : List (ByteArray × Int)} {us : List Int} {rs qs : List RecD} {i j : Nat} (h : lnk vs us rs qs i j = true) : upd (midL vs us rs qs i j) i (linkK (lnk vs us rs qs i) j ++ [(j : Int)]) = midL vs us rs qs i (j + 1) := by
  funext t
  unfold upd midL
  by_cases e : t = i
  · subst e; simp [linkK_yes h]
  · simp [e]
theorem midL_no {vs : List (ByteArray × Int)} {us : List Int} {rs qs : List RecD} {i j : Nat} (h : lnk vs us rs qs i j = false) : midL vs us rs qs i j = midL vs us rs qs i (j + 1) := by
  funext t
  unfold midL
  by_cases e : t = i
  · subst e; simp [linkK_no h]
  · simp [e]
theorem midL_end {vs : List (ByteArray × Int)} {us : List Int} {rs qs : List RecD} {i m : Nat} (h : qs.length = m) : midL vs us rs qs i m = midL vs us rs qs (i + 1) 0 := by
  funext t
  unfold midL setL
  by_cases e : t = i
  · subst e; simp [h]
  · by_cases e2 : t < i
    · simp [e2, Nat.lt_succ_of_lt e2]
    · have e3 : ¬ t < i + 1 := by omega
      by_cases e4 : t = i + 1
      · subst e4; rw [if_neg e2, if_neg e, if_neg e3, if_pos rfl]; rfl
      · rw [if_neg e2, if_neg e, if_neg e3, if_neg e4]
theorem midL_zero (vs : List (ByteArray × Int)) (us : List Int) (rs qs : List RecD) (t : Nat) : midL vs us rs qs 0 0 t = [] := by
  unfold midL linkK
  by_cases e : t = 0 <;> simp [e]

/-- All records fit a schema and key variables. -/
structure AllOk (vs : List (ByteArray × Int)) (rs : List RecD) (us : List Int) (n : Nat) : Prop where
  len : vs.length = n
  s : schB vs = true
  d : dataB vs rs = true
  r : risB us n = true
theorem AllOk.at_ {vs : List (ByteArray × Int)} {rs : List RecD} {us : List Int} {n : Nat} (h : AllOk vs rs us n) {i : Nat} (hi : i < rs.length) : KeyOk vs (rV rs i) us n :=
  ⟨h.len, h.s, by have := (dataB_of h.d).2 i hi; unfold recOk at this; exact recB_vals this, h.r⟩
theorem AllOk.part {vs : List (ByteArray × Int)} {rs : List RecD} {us : List Int} {n : Nat} (h : AllOk vs rs us n) : PartOk vs us n := ⟨h.len, h.s, h.r⟩
theorem AllOk.forty {vs : List (ByteArray × Int)} {rs : List RecD} {us : List Int} {n : Nat} (h : AllOk vs rs us n) : rs.length ≤ 40 := (dataB_of h.d).1
theorem keyed_all {vs : List (ByteArray × Int)} {rs : List RecD} {us : List Int} {n : Nat} (hl : vs.length = n) (h : keyedB vs rs us = true) : AllOk vs rs us n := by
  simp only [keyedB, Bool.and_eq_true] at h
  exact ⟨hl, h.1, h.2.1, by rw [← hl]; exact h.2.2⟩
theorem linked_all {vs : List (ByteArray × Int)} {rs qs : List RecD} {us : List Int} {n : Nat} (hl : vs.length = n) (h : linkedB vs rs qs us = true) : AllOk vs rs us n ∧ AllOk vs qs us n := by
  simp only [linkedB, Bool.and_eq_true] at h
  have h1 := keyed_all hl h.1
  exact ⟨h1, h1.len, h1.s, h.2, h1.r⟩

set_option maxRecDepth 100000 in
set_option maxHeartbeats 4000000 in
theorem linkSets_any (A B C U : Option Addr) (n c m d m2 d2 l k' : Nat) (vs : List (ByteArray × Int)) (rs qs : List RecD) (us : List Int) (w : World) (hx : SchR w A n c vs) (hy : DatR w B m rs) (hz : DatR w C m2 qs) (hu : IntR w U l us) (hk : AllOk vs rs us n) (hk2 : AllOk vs qs us n) :
    Calls Tryz.prog 23 #[.slice A n c, .slice B m d, .slice C m2 d2, .slice U l k'] w fun e w' => ∃ A' c', e = .returned (.slice A' m c') ∧ OwnII w' w.heap.size w'.heap.size A' m c' (setL vs us rs qs) ∧ Below w.heap.size w w' := by
  obtain ⟨i0, hi, hz0, hz1, hz2⟩ := info_parts Tryz.infoIntS
  have hm40 : m ≤ 40 := by have := hk.forty; rw [hy.len] at this; exact this
  have hm240 : m2 ≤ 40 := by have := hk2.forty; rw [hz.len] at this; exact this
  have HX := Lib.hid hx
  have HY := Lib.hid hy
  have HZ := Lib.hid hz
  have HU := Lib.hid hu
  clear hx hy hz hu
  go_enter Tryz.func23, Tryz.ntmps23
  go_wp2_with (at_make; refine wpList_make_full _ rfl _ _ 46 rfl w.heap.size 26 i0 _ 1 Tryz.underlying46 hi hz0 hz1 .i64 .i64 _ _ m rfl rfl rfl rfl (by rw [hz2]; omega) (by unfold maxLen; omega) (Nat.le_refl _) ?_; intro w1 hown hg)
  have hS : Sub w1 w.heap.size w1.heap.size (madeCells (Value.slice none 0 0).cells (m * 1)).toList 1 0 (midL vs us rs qs 0 0) 0 m := Sub.nils (fun j hj => madeRows m j hj) (fun j _ => midL_zero _ _ _ _ j)
  generalize (madeCells (Value.slice none 0 0).cells (m * 1)).toList = y0 at *
  have hb1 : Below w.heap.size w w1 := (Below.refl _ _).grown hg (Nat.le_refl _) (by simp)
  have hsz1 : w.heap.size < w1.heap.size := (World.ownsRow.lt hown w.heap.size rfl).2
  clear hg hi hz0 hz1 hz2
  go_loopw [19] (fun i wr => ∃ (j : Nat) (ys : List Value), j ≤ m ∧ i = .int .i64 j ∧ wr.ownsRow w.heap.size 26 1 (.slice (some ⟨w.heap.size, 0, none⟩) m m) m ys ∧ Sub wr w.heap.size wr.heap.size ys 1 0 (midL vs us rs qs j 0) 0 m ∧ Below w.heap.size w wr) (fun i _ => m - (intOf i).toNat)
  case atStart => exact ⟨0, _, Nat.zero_le _, rfl, hown, hS, hb1⟩
  case round =>
    clear hown hS hb1
    obtain ⟨j, ys, hj, rfl, hown, hsub, hbw⟩ := hrel
    obtain ⟨wo, rfl⟩ : ∃ wo : World, wo = wr := ⟨_, rfl⟩
    by_cases hlt : j < m
    · obtain ⟨ad, rfl, c0, c1, V, lv, cv, c2, hv⟩ := HY.out.r.later hbw hlt
      have hk1 := Lib.hid (hk.at_ (show j < rs.length by rw [HY.out.len]; exact hlt))
      have hlv : lv ≤ 1099511627776 := by have := HY.out.s j hlt; rw [hv.1] at this; exact this
      obtain ⟨x, hxe⟩ : ∃ x, rA rs j = x := ⟨_, rfl⟩
      obtain ⟨y, hye⟩ : ∃ y, rH rs j = y := ⟨_, rfl⟩
      rw [hxe] at c0
      rw [hye] at c1
      clear hye
      have HXE := Lib.hid hxe
      clear hxe
      have b1 := below_new wo (.cells #[.int .i64 x, .int .i64 y, .slice V lv cv] 53)
      have X1 := Lib.hid (box_new wo #[.int .i64 x, .int .i64 y, .slice V lv cv] 53)
      have O1 := Lib.hid (row_below hown b1)
      have S1 := Lib.hid ((hsub.below b1).fit (Nat.le_refl _))
      have HB1 := Lib.hid (hbw.trans (b1.mono hbw.size))
      have HV := Lib.hid hv
      have hgb : w.heap.size < wo.heap.size := (World.ownsRow.lt hown w.heap.size rfl).2
      clear hown hsub hv b1
      go_wp2_with fail
      clear hbw
      generalize wo.alloc (.cells #[.int .i64 x, .int .i64 y, .slice V lv cv] 53) = w2 at *
      go_loopw [26] (fun i wq => ∃ (q : Nat) (zs : List Value), q ≤ m2 ∧ i = .int .i64 q ∧ Hid (wq.heap[wo.heap.size]? = some (.cells #[.int .i64 x, .int .i64 y, .slice V lv cv] 53 (0, 0))) ∧ Hid (wq.ownsRow w.heap.size 26 1 (.slice (some ⟨w.heap.size, 0, none⟩) m m) m zs) ∧ Hid (Sub wq w.heap.size wq.heap.size zs 1 0 (midL vs us rs qs j q) 0 m) ∧ Hid (Below w.heap.size w wq)) (fun i _ => m2 - (intOf i).toNat)
      case atStart => exact ⟨0, ys, Nat.zero_le _, rfl, X1, O1, S1, HB1⟩
      case round =>
        clear X1 O1 S1 HB1
        obtain ⟨q, zs, hq, rfl, X2, O2, S2, HB2⟩ := hrel
        by_cases hqm : q < m2
        · obtain ⟨ad2, rfl, e0, e1, V2, lv2, cv2, e2, hv2⟩ := HZ.out.r.later HB2.out hqm
          have hk3 := Lib.hid (hk2.at_ (show q < qs.length by rw [HZ.out.len]; exact hqm))
          have hlv2 : lv2 ≤ 1099511627776 := by have := HZ.out.s q hqm; rw [hv2.1] at this; exact this
          obtain ⟨x2, hxe2⟩ : ∃ x, rA qs q = x := ⟨_, rfl⟩
          obtain ⟨y2, hye2⟩ : ∃ y, rH qs q = y := ⟨_, rfl⟩
          rw [hxe2] at e0
          rw [hye2] at e1
          clear hye2
          have HL := Lib.hid (show lnk vs us rs qs j q = sameB x (keyV vs (rV rs j) us) x2 (keyV vs (rV qs q) us) by unfold lnk; rw [HXE.out, hxe2])
          clear hxe2
          have b3 := below_new wr (.cells #[.int .i64 x2, .int .i64 y2, .slice V2 lv2 cv2] 53)
          have q0 := box_new wr #[.int .i64 x2, .int .i64 y2, .slice V2 lv2 cv2] 53
          have p0 := box_below X2.out b3
          have O3 := Lib.hid (row_below O2.out b3)
          have S3 := Lib.hid ((S2.out.below b3).fit (Nat.le_refl _))
          have HB3 := Lib.hid (HB2.out.trans (b3.mono HB2.out.size))
          have HW := Lib.hid hv2
          have HP3 := Lib.hid p0
          have g0 := box_cell p0 0 (.int .i64 x) rfl
          have g1 := box_cell p0 1 (.int .i64 y) rfl
          have g2 := box_cell p0 2 (.slice V lv cv) rfl
          have f0 := box_cell q0 0 (.int .i64 x2) rfl
          have f1 := box_cell q0 1 (.int .i64 y2) rfl
          have f2 := box_cell q0 2 (.slice V2 lv2 cv2) rfl
          have hlo := HB3.out.size
          clear X2 O2 S2 HB2 hv2 b3 p0 q0
          go_wp2_with fail
          clear e0 e1 e2
          generalize wr.alloc (.cells #[.int .i64 x2, .int .i64 y2, .slice V2 lv2 cv2] 53) = w3 at *
          refine (sameClass_any _ _ _ _ n _ lv _ lv2 _ l _ x y x2 y2 vs (rV rs j) (rV qs q) us _ (HX.out.below HB3.out) ⟨HV.out.below HB3.out, hlv⟩ ⟨HW.out.below HB3.out, hlv2⟩ (HU.out.below HB3.out) hk1.out hk3.out).mono ?_
          rintro e w4 ⟨rfl, b4⟩
          rw [← HL.out]
          have O4 := Lib.hid (row_below O3.out b4)
          have S4 := Lib.hid ((S3.out.below b4).fit (Nat.le_refl _))
          have HB4 := Lib.hid (HB3.out.trans (b4.mono HB3.out.size))
          have HP4 := Lib.hid (box_below HP3.out b4)
          have hlo4 := HB4.out.size
          have hgx : wo.heap.size < w4.heap.size := lt_of_block HP4.out
          clear O3 S3 HB3 HP3 HW b4 g0 g1 g2 f0 f1 f2 hlo
          cases hB : lnk vs us rs qs j q
          · have R := Lib.hid (show Sub w4 w.heap.size w4.heap.size zs 1 0 (midL vs us rs qs j (q + 1)) 0 m by rw [← midL_no hB]; exact S4.out)
            clear hB S4
            go_wp2
            go_roundw
            case rel => exact ⟨q + 1, zs, by omega, by go_num, HP4, O4, R, HB4⟩
            case measure => simp [intOf]; omega
          · have hB' := Lib.hid hB
            clear hB
            obtain ⟨V5, c5, e5, o5⟩ := S4.out.row j (Nat.zero_le _) hlt
            have e5' : zs[j]? = some (.slice V5 (midL vs us rs qs j q j).length c5) := by rw [← e5, Nat.mul_one, Nat.add_zero]
            have hc5 : w4.cell? ⟨w.heap.size, j, none⟩ = some (.slice V5 (midL vs us rs qs j q j).length c5) := (World.ownsRow.cellAt O4.out j (by have := O4.out.1; omega)).trans e5'
            have hf5 : w4.frozen? ⟨w.heap.size, j, none⟩ = false := World.ownsRow.frozenAt O4.out j
            have ST := Lib.hid (fun (w6 : World) (V6 : Option Addr) (c6 : Nat) (l6 : List Int) (hg : w4.grownBy w6 (rowOf V5)) (h1 : Own w6 w.heap.size V6 l6.length c6 l6) h2 h3 => sets_step (l := l6) (c2 := c6) (V2 := V6) O4.out S4.out hlt e5' hg h1 h2 h3)
            have o5' := o5.own
            have hlen : (midL vs us rs qs j q j).length ≤ 40 := by rw [midL_at]; have := linkK_len (lnk vs us rs qs j) q; omega
            have HM := Lib.hid (midL_yes hB'.out)
            rw [← midL_at] at HM
            have hne := Lib.hid (fun (e : rowOf V5 = some wo.heap.size) => own_box_ne o5' HP4.out (by decide) e)
            have hne2 := Lib.hid o5.row
            have K4 := Lib.hid (fun (w6 : World) (hg : w4.grownBy w6 (rowOf V5)) => World.ownsRow.kept O4.out hg (.inr (fun e => row_ne o5' O4.out (by decide) e.symm)))
            clear e5 o5 S4
            generalize midL vs us rs qs j q j = l0 at *
            generalize hln : l0.length = n0 at *
            have HLN := Lib.hid (show (l0 ++ [(q : Int)]).length = n0 + 1 by simp [hln])
            clear hln
            go_wp2_with (at_builtin; refine wp_app1 (v := (q : Int)) rfl _ _ rfl w.heap.size V5 n0 c5 l0 rfl o5' _ rfl rfl (by omega) hlo4 ?_; intro A6 c6 w6 hown6 hg6 hr6; have hown6' := Lib.hid hown6; have hg6' := Lib.hid hg6; have hr6' := Lib.hid hr6; have hf6 := World.ownsRow.frozenAt (K4.out w6 hg6) j; have hc6 := World.ownsRow.cellAt (K4.out w6 hg6) j (by have := O4.out.1; omega); rw [e5'] at hc6; clear hown6 hg6 hr6)
            obtain ⟨T1, T2⟩ := ST.out w6 A6 c6 (l0 ++ [(q : Int)]) hg6'.out (by rw [HLN.out]; exact hown6'.out) (by rw [HLN.out]; omega) (by
              rcases hr6'.out with e | e
              · exact .inr (.inl e)
              · exact .inr (.inr ⟨_, e, by omega⟩))
            rw [HLN.out] at T1 T2
            rw [HM.out] at T2
            have HB6 := below_write HB4.out hg6'.out hlo4 (fun k hk => (hne2.out k hk).1)
            have HP6 := Lib.hid ((Below.heap_setCell w6 ⟨w.heap.size, j, none⟩ (.slice A6 (n0 + 1) c6) wo.heap.size (by simp; omega)).trans ((hg6'.out.block wo.heap.size hgx (fun e => hne.out e.symm)).trans HP4.out))
            have HB7 := Lib.hid (HB6.setCell (p := ⟨w.heap.size, j, none⟩) (Nat.le_refl _) (.slice A6 (n0 + 1) c6))
            have HT1 := Lib.hid T1
            have HT2 := Lib.hid (T2.fit (Nat.le_refl _))
            clear T1 T2 HB6
            go_roundw
            case rel => exact ⟨q + 1, _, by omega, by go_num, HP6, HT1, HT2, HB7⟩
            case measure => simp [intOf]; omega
        · obtain rfl : q = m2 := by omega
          have R := Lib.hid (show Sub wr w.heap.size wr.heap.size zs 1 0 (midL vs us rs qs (j + 1) 0) 0 m by rw [← midL_end HZ.out.len]; exact S2.out)
          clear S2
          have hO2 := O2.out
          have hB2 := HB2.out
          go_wp2
          go_roundw
          case rel => exact ⟨j + 1, zs, by omega, by go_num, hO2, R.out, hB2⟩
          case measure => simp [intOf]; omega
    · obtain rfl : j = m := by omega
      have R := Lib.hid (hsub.fn (L' := setL vs us rs qs) fun t _ ht => by simp [midL, ht])
      go_wp2
      go_ret
      exact ⟨_, _, rfl, ⟨⟨ys, hown, R.out⟩, fun g hg => (World.ownsRow.lt hown g (by simpa [ownBlock_row] using hg)).2, by omega⟩, hbw⟩

set_option maxRecDepth 100000 in
set_option maxHeartbeats 4000000 in
theorem liSets_any (A B C U : Option Addr) (n c m d m2 d2 l k' : Nat) (vs : List (ByteArray × Int)) (rs qs : List RecD) (us : List Int) (w : World) (hx : SchR w A n c vs) (hy : DatR w B m rs) (hz : DatR w C m2 qs) (hu : IntR w U l us) (hk : AllOk vs rs us n) (hk2 : AllOk vs qs us n) :
    Calls Tryz.prog 28 #[.slice A n c, .slice B m d, .slice C m2 d2, .slice U l k'] w fun e w' => ∃ A' c', e = .returned (.slice A' m c') ∧ OwnII w' w.heap.size w'.heap.size A' m c' (setL vs us rs qs) ∧ Below w.heap.size w w' := by
  obtain ⟨i0, hi, hz0, hz1, hz2⟩ := info_parts Tryz.infoIntS
  have hm40 : m ≤ 40 := by have := hk.forty; rw [hy.len] at this; exact this
  have hm240 : m2 ≤ 40 := by have := hk2.forty; rw [hz.len] at this; exact this
  have HX := Lib.hid hx
  have HY := Lib.hid hy
  have HZ := Lib.hid hz
  have HU := Lib.hid hu
  clear hx hy hz hu
  go_enter Tryz.func28, Tryz.ntmps28
  go_wp2_with (at_make; refine wpList_make_full _ rfl _ _ 46 rfl w.heap.size 26 i0 _ 1 Tryz.underlying46 hi hz0 hz1 .i64 .i64 _ _ m rfl rfl rfl rfl (by rw [hz2]; omega) (by unfold maxLen; omega) (Nat.le_refl _) ?_; intro w1 hown hg)
  have hS : Sub w1 w.heap.size w1.heap.size (madeCells (Value.slice none 0 0).cells (m * 1)).toList 1 0 (midL vs us rs qs 0 0) 0 m := Sub.nils (fun j hj => madeRows m j hj) (fun j _ => midL_zero _ _ _ _ j)
  generalize (madeCells (Value.slice none 0 0).cells (m * 1)).toList = y0 at *
  have hb1 : Below w.heap.size w w1 := (Below.refl _ _).grown hg (Nat.le_refl _) (by simp)
  have hsz1 : w.heap.size < w1.heap.size := (World.ownsRow.lt hown w.heap.size rfl).2
  clear hg hi hz0 hz1 hz2
  go_loopw [19] (fun i wr => ∃ (j : Nat) (ys : List Value), j ≤ m ∧ i = .int .i64 j ∧ wr.ownsRow w.heap.size 26 1 (.slice (some ⟨w.heap.size, 0, none⟩) m m) m ys ∧ Sub wr w.heap.size wr.heap.size ys 1 0 (midL vs us rs qs j 0) 0 m ∧ Below w.heap.size w wr) (fun i _ => m - (intOf i).toNat)
  case atStart => exact ⟨0, _, Nat.zero_le _, rfl, hown, hS, hb1⟩
  case round =>
    clear hown hS hb1
    obtain ⟨j, ys, hj, rfl, hown, hsub, hbw⟩ := hrel
    obtain ⟨wo, rfl⟩ : ∃ wo : World, wo = wr := ⟨_, rfl⟩
    by_cases hlt : j < m
    · obtain ⟨ad, rfl, c0, c1, V, lv, cv, c2, hv⟩ := HY.out.r.later hbw hlt
      have hk1 := Lib.hid (hk.at_ (show j < rs.length by rw [HY.out.len]; exact hlt))
      have hlv : lv ≤ 1099511627776 := by have := HY.out.s j hlt; rw [hv.1] at this; exact this
      obtain ⟨x, hxe⟩ : ∃ x, rA rs j = x := ⟨_, rfl⟩
      obtain ⟨y, hye⟩ : ∃ y, rH rs j = y := ⟨_, rfl⟩
      rw [hxe] at c0
      rw [hye] at c1
      clear hye
      have HXE := Lib.hid hxe
      clear hxe
      have b1 := below_new wo (.cells #[.int .i64 x, .int .i64 y, .slice V lv cv] 53)
      have X1 := Lib.hid (box_new wo #[.int .i64 x, .int .i64 y, .slice V lv cv] 53)
      have O1 := Lib.hid (row_below hown b1)
      have S1 := Lib.hid ((hsub.below b1).fit (Nat.le_refl _))
      have HB1 := Lib.hid (hbw.trans (b1.mono hbw.size))
      have HV := Lib.hid hv
      have hgb : w.heap.size < wo.heap.size := (World.ownsRow.lt hown w.heap.size rfl).2
      clear hown hsub hv b1
      go_wp2_with fail
      clear hbw
      generalize wo.alloc (.cells #[.int .i64 x, .int .i64 y, .slice V lv cv] 53) = w2 at *
      go_loopw [26] (fun i wq => ∃ (q : Nat) (zs : List Value), q ≤ m2 ∧ i = .int .i64 q ∧ Hid (wq.heap[wo.heap.size]? = some (.cells #[.int .i64 x, .int .i64 y, .slice V lv cv] 53 (0, 0))) ∧ Hid (wq.ownsRow w.heap.size 26 1 (.slice (some ⟨w.heap.size, 0, none⟩) m m) m zs) ∧ Hid (Sub wq w.heap.size wq.heap.size zs 1 0 (midL vs us rs qs j q) 0 m) ∧ Hid (Below w.heap.size w wq)) (fun i _ => m2 - (intOf i).toNat)
      case atStart => exact ⟨0, ys, Nat.zero_le _, rfl, X1, O1, S1, HB1⟩
      case round =>
        clear X1 O1 S1 HB1
        obtain ⟨q, zs, hq, rfl, X2, O2, S2, HB2⟩ := hrel
        by_cases hqm : q < m2
        · obtain ⟨ad2, rfl, e0, e1, V2, lv2, cv2, e2, hv2⟩ := HZ.out.r.later HB2.out hqm
          have hk3 := Lib.hid (hk2.at_ (show q < qs.length by rw [HZ.out.len]; exact hqm))
          have hlv2 : lv2 ≤ 1099511627776 := by have := HZ.out.s q hqm; rw [hv2.1] at this; exact this
          obtain ⟨x2, hxe2⟩ : ∃ x, rA qs q = x := ⟨_, rfl⟩
          obtain ⟨y2, hye2⟩ : ∃ y, rH qs q = y := ⟨_, rfl⟩
          rw [hxe2] at e0
          rw [hye2] at e1
          clear hye2
          have HL := Lib.hid (show lnk vs us rs qs j q = sameB x (keyV vs (rV rs j) us) x2 (keyV vs (rV qs q) us) by unfold lnk; rw [HXE.out, hxe2])
          clear hxe2
          have b3 := below_new wr (.cells #[.int .i64 x2, .int .i64 y2, .slice V2 lv2 cv2] 53)
          have q0 := box_new wr #[.int .i64 x2, .int .i64 y2, .slice V2 lv2 cv2] 53
          have p0 := box_below X2.out b3
          have O3 := Lib.hid (row_below O2.out b3)
          have S3 := Lib.hid ((S2.out.below b3).fit (Nat.le_refl _))
          have HB3 := Lib.hid (HB2.out.trans (b3.mono HB2.out.size))
          have HW := Lib.hid hv2
          have HP3 := Lib.hid p0
          have g0 := box_cell p0 0 (.int .i64 x) rfl
          have g1 := box_cell p0 1 (.int .i64 y) rfl
          have g2 := box_cell p0 2 (.slice V lv cv) rfl
          have f0 := box_cell q0 0 (.int .i64 x2) rfl
          have f1 := box_cell q0 1 (.int .i64 y2) rfl
          have f2 := box_cell q0 2 (.slice V2 lv2 cv2) rfl
          have hlo := HB3.out.size
          clear X2 O2 S2 HB2 hv2 b3 p0 q0
          go_wp2_with fail
          clear e0 e1 e2
          generalize wr.alloc (.cells #[.int .i64 x2, .int .i64 y2, .slice V2 lv2 cv2] 53) = w3 at *
          refine (liSame_any _ _ _ _ n _ lv _ lv2 _ l _ x y x2 y2 vs (rV rs j) (rV qs q) us _ (HX.out.below HB3.out) ⟨HV.out.below HB3.out, hlv⟩ ⟨HW.out.below HB3.out, hlv2⟩ (HU.out.below HB3.out) hk1.out hk3.out).mono ?_
          rintro e w4 ⟨rfl, b4⟩
          rw [← HL.out]
          have O4 := Lib.hid (row_below O3.out b4)
          have S4 := Lib.hid ((S3.out.below b4).fit (Nat.le_refl _))
          have HB4 := Lib.hid (HB3.out.trans (b4.mono HB3.out.size))
          have HP4 := Lib.hid (box_below HP3.out b4)
          have hlo4 := HB4.out.size
          have hgx : wo.heap.size < w4.heap.size := lt_of_block HP4.out
          clear O3 S3 HB3 HP3 HW b4 g0 g1 g2 f0 f1 f2 hlo
          cases hB : lnk vs us rs qs j q
          · have R := Lib.hid (show Sub w4 w.heap.size w4.heap.size zs 1 0 (midL vs us rs qs j (q + 1)) 0 m by rw [← midL_no hB]; exact S4.out)
            clear hB S4
            go_wp2
            go_roundw
            case rel => exact ⟨q + 1, zs, by omega, by go_num, HP4, O4, R, HB4⟩
            case measure => simp [intOf]; omega
          · have hB' := Lib.hid hB
            clear hB
            obtain ⟨V5, c5, e5, o5⟩ := S4.out.row j (Nat.zero_le _) hlt
            have e5' : zs[j]? = some (.slice V5 (midL vs us rs qs j q j).length c5) := by rw [← e5, Nat.mul_one, Nat.add_zero]
            have hc5 : w4.cell? ⟨w.heap.size, j, none⟩ = some (.slice V5 (midL vs us rs qs j q j).length c5) := (World.ownsRow.cellAt O4.out j (by have := O4.out.1; omega)).trans e5'
            have hf5 : w4.frozen? ⟨w.heap.size, j, none⟩ = false := World.ownsRow.frozenAt O4.out j
            have ST := Lib.hid (fun (w6 : World) (V6 : Option Addr) (c6 : Nat) (l6 : List Int) (hg : w4.grownBy w6 (rowOf V5)) (h1 : Own w6 w.heap.size V6 l6.length c6 l6) h2 h3 => sets_step (l := l6) (c2 := c6) (V2 := V6) O4.out S4.out hlt e5' hg h1 h2 h3)
            have o5' := o5.own
            have hlen : (midL vs us rs qs j q j).length ≤ 40 := by rw [midL_at]; have := linkK_len (lnk vs us rs qs j) q; omega
            have HM := Lib.hid (midL_yes hB'.out)
            rw [← midL_at] at HM
            have hne := Lib.hid (fun (e : rowOf V5 = some wo.heap.size) => own_box_ne o5' HP4.out (by decide) e)
            have hne2 := Lib.hid o5.row
            have K4 := Lib.hid (fun (w6 : World) (hg : w4.grownBy w6 (rowOf V5)) => World.ownsRow.kept O4.out hg (.inr (fun e => row_ne o5' O4.out (by decide) e.symm)))
            clear e5 o5 S4
            generalize midL vs us rs qs j q j = l0 at *
            generalize hln : l0.length = n0 at *
            have HLN := Lib.hid (show (l0 ++ [(q : Int)]).length = n0 + 1 by simp [hln])
            clear hln
            go_wp2_with (at_builtin; refine wp_app1 (v := (q : Int)) rfl _ _ rfl w.heap.size V5 n0 c5 l0 rfl o5' _ rfl rfl (by omega) hlo4 ?_; intro A6 c6 w6 hown6 hg6 hr6; have hown6' := Lib.hid hown6; have hg6' := Lib.hid hg6; have hr6' := Lib.hid hr6; have hf6 := World.ownsRow.frozenAt (K4.out w6 hg6) j; have hc6 := World.ownsRow.cellAt (K4.out w6 hg6) j (by have := O4.out.1; omega); rw [e5'] at hc6; clear hown6 hg6 hr6)
            obtain ⟨T1, T2⟩ := ST.out w6 A6 c6 (l0 ++ [(q : Int)]) hg6'.out (by rw [HLN.out]; exact hown6'.out) (by rw [HLN.out]; omega) (by
              rcases hr6'.out with e | e
              · exact .inr (.inl e)
              · exact .inr (.inr ⟨_, e, by omega⟩))
            rw [HLN.out] at T1 T2
            rw [HM.out] at T2
            have HB6 := below_write HB4.out hg6'.out hlo4 (fun k hk => (hne2.out k hk).1)
            have HP6 := Lib.hid ((Below.heap_setCell w6 ⟨w.heap.size, j, none⟩ (.slice A6 (n0 + 1) c6) wo.heap.size (by simp; omega)).trans ((hg6'.out.block wo.heap.size hgx (fun e => hne.out e.symm)).trans HP4.out))
            have HB7 := Lib.hid (HB6.setCell (p := ⟨w.heap.size, j, none⟩) (Nat.le_refl _) (.slice A6 (n0 + 1) c6))
            have HT1 := Lib.hid T1
            have HT2 := Lib.hid (T2.fit (Nat.le_refl _))
            clear T1 T2 HB6
            go_roundw
            case rel => exact ⟨q + 1, _, by omega, by go_num, HP6, HT1, HT2, HB7⟩
            case measure => simp [intOf]; omega
        · obtain rfl : q = m2 := by omega
          have R := Lib.hid (show Sub wr w.heap.size wr.heap.size zs 1 0 (midL vs us rs qs (j + 1) 0) 0 m by rw [← midL_end HZ.out.len]; exact S2.out)
          clear S2
          have hO2 := O2.out
          have hB2 := HB2.out
          go_wp2
          go_roundw
          case rel => exact ⟨j + 1, zs, by omega, by go_num, hO2, R.out, hB2⟩
          case measure => simp [intOf]; omega
    · obtain rfl : j = m := by omega
      have R := Lib.hid (hsub.fn (L' := setL vs us rs qs) fun t _ ht => by simp [midL, ht])
      go_wp2
      go_ret
      exact ⟨_, _, rfl, ⟨⟨ys, hown, R.out⟩, fun g hg => (World.ownsRow.lt hown g (by simpa [ownBlock_row] using hg)).2, by omega⟩, hbw⟩
end

section
open Go.RowKit

/-- How many numbers the rows below j hold. -/
def sumLen (L : Nat → List Int) : Nat → Nat
  | 0 => 0
  | j + 1 => sumLen L j + (L j).length
def markL (k0 : Int) (L : Nat → List Int) (j : Nat) : List Int := marks (k0 + sumLen L j) (L j).length
def markTo (k0 : Int) (L : Nat → List Int) (j : Nat) : Nat → List Int := fun t => if t < j then markL k0 L t else L t
theorem markTo_step (k0 : Int) (L : Nat → List Int) (j : Nat) : upd (markTo k0 L j) j (marks (k0 + sumLen L j) (L j).length) = markTo k0 L (j + 1) := by
  funext t
  unfold upd markTo markL
  by_cases e : t = j
  · subst e; simp
  · by_cases e2 : t < j
    · simp [e, e2, Nat.lt_succ_of_lt e2]
    · have e3 : ¬ t < j + 1 := by omega
      simp [e, e2, e3]
theorem sumLen_le {L : Nat → List Int} {n : Nat} (hL : ∀ j, j < n → (L j).length ≤ 1048576) : ∀ j, j ≤ n → sumLen L j ≤ j * 1048576 := by
  intro j
  induction j with
  | zero => intro _; simp [sumLen]
  | succ j ih => intro hj; have h1 := ih (by omega); have h2 := hL j (by omega); simp only [sumLen]; omega
/-- A row is marked in place: the outer cells stay. -/
theorem Sub.setIn {w w' : World} {lo hi : Nat} {ys : List Value} {L : Nat → List Int} {n i m c : Nat} {V : Option Addr} {l : List Int} (h : Sub w lo hi ys 1 0 L 0 n) (hi' : i < n) (hV : ys[i]? = some (.slice V m c)) (hlm : l.length = m)
    (hg : w.grownBy w' (rowOf V)) (ho : Own w' lo V m c l) : Sub w' lo hi ys 1 0 (upd L i l) 0 n := by
  subst hlm
  have e1 : ∀ t : Nat, t * 1 + 0 = t := fun t => by omega
  refine ⟨fun j h1 h2 => ?_, h.apart⟩
  obtain ⟨V3, c3, e3, ho3⟩ := h.row j h1 h2
  by_cases e : j = i
  · subst e
    rw [e1, hV] at e3
    simp only [Option.some.injEq, Value.slice.injEq] at e3
    obtain ⟨rfl, em, rfl⟩ := e3
    rw [e1, upd_at]
    refine ⟨V, c, hV, ⟨ho, ho3.top, ?_⟩⟩
    rw [em]; exact ho3.small
  · rw [upd_ne _ _ e]
    refine ⟨V3, c3, e3, ⟨ho3.own.far hg (fun g hA eg => ?_), ho3.top, ho3.small⟩⟩
    have hVi : (ys[i * 1 + 0]?).bind Value.ownBlock = some g := by rw [e1, hV]; simpa [ownBlock_rowOf] using eg
    have hVj : (ys[j * 1 + 0]?).bind Value.ownBlock = some g := by rw [e3, hA]; rfl
    rcases Nat.lt_or_ge j i with h4 | h4
    · exact h.apart j i g (by omega) h4 hi' hVj hVi
    · exact h.apart i j g (by omega) (by omega) h2 hVi hVj

/-- LinkSets' count of rows. -/
def lsN (vs : List (ByteArray × Int)) (rs qs : List RecD) (us : List Int) : Nat := if linkedB vs rs qs us = true then rs.length else 0
theorem lsN_yes {vs : List (ByteArray × Int)} {rs qs : List RecD} {us : List Int} (h : linkedB vs rs qs us = true) : lsN vs rs qs us = rs.length := by rw [lsN, if_pos h]
theorem lsN_no {vs : List (ByteArray × Int)} {rs qs : List RecD} {us : List Int} (h : linkedB vs rs qs us = false) : lsN vs rs qs us = 0 := by rw [lsN, if_neg (by simp [h])]
theorem OwnII.nil_ {w : World} {lo hi : Nat} {L : Nat → List Int} : OwnII w lo hi none 0 0 L := ⟨⟨[], World.ownsRow_nil _ _ _ _, ⟨fun j _ h => absurd h (by omega), fun i j g _ h1 h2 => absurd h2 (by omega)⟩⟩, (fun k hk => by cases hk), by omega⟩
theorem OwnII.fit {w : World} {A : Option Addr} {n c lo lo' hi : Nat} {L : Nat → List Int} (h : OwnII w lo hi A n c L) (hl : lo' ≤ lo) : OwnII w lo' w.heap.size A n c L := by
  obtain ⟨ys, h1, h2⟩ := h.cells
  refine ⟨⟨ys, ?_, h2.fit hl⟩, fun g hg => (World.ownsRow.lt h1 g (by simpa [ownBlock_row] using hg)).2, h.small⟩
  refine ⟨h1.1, ?_⟩
  rcases h1.2 with h0 | ⟨g, cap, cur, hv, hb, hr⟩
  · exact .inl h0
  · exact .inr ⟨g, cap, cur, hv, by omega, hr⟩

def RetSets (w : World) (n : Nat) (b : Bool) (L : Nat → List Int) (e : Ending) (w' : World) : Prop :=
  ∃ A' c', e = .returned (.tuple #[.slice A' n c', .bool b]) ∧ OwnII w' w.heap.size w'.heap.size A' n c' L ∧ Below w.heap.size w w'
end

section
open Go.RowKit

theorem OwnV.sch {w : World} {lo hi : Nat} {A : Option Addr} {n c : Nat} {vs : List (ByteArray × Int)} (h : OwnV w lo hi A n c vs) (hs : ∀ j, j < n → (vN vs j).size ≤ 1099511627776) : SchR w A n c vs := by
  refine ⟨h.vars, hs, h.small, ?_⟩
  rcases h.own.2 with ⟨hv, h0⟩ | ⟨g, cap, cur, hv, _, _, hc, _⟩
  · injection hv with _ _ hc; omega
  · injection hv with _ _ hc'; omega
theorem OwnRc.dat {w : World} {lo hi : Nat} {A : Option Addr} {n c : Nat} {rs : List RecD} (h : OwnRc w lo hi A n c rs) (hs : ∀ j, j < n → (rV rs j).length ≤ 1099511627776) : DatR w A n rs := ⟨h.recs, hs, h.small⟩
theorem setL_le {vs : List (ByteArray × Int)} {us : List Int} {rs qs : List RecD} {n : Nat} (hl : qs.length = n) (hn : n ≤ 1048576) (j : Nat) : (setL vs us rs qs j).length ≤ 1048576 := by
  have := linkK_len (lnk vs us rs qs j) qs.length
  unfold setL
  omega
theorem lsN_le {vs : List (ByteArray × Int)} {us : List Int} {rs qs : List RecD} {n : Nat} (hl : rs.length = n) (hn : n ≤ 1048576) : lsN vs rs qs us ≤ 1048576 := by
  unfold lsN
  split <;> omega
end
end Go.Proofs.YtgeilnkglbcmeaaGreat
