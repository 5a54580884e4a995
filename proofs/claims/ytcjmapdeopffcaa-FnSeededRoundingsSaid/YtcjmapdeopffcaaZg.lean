/- Several small texts in one: Same, Sets, SetsL. -/
import Derived.Test.YtcjmapdeopffcaaZf
import Derived.Test.YtcjmapdeopffcaaYa
import Derived.Deep.RegionHeld3
namespace Go.Proofs.Ytcjmapdeopffcaa

section
open Go.RowKit

def sameB (x k x2 k2 : Int) : Bool := (x == x2) && (k == k2)
end

section
open Go.RowKit

/-- A row of rows of ints of the call's own, in blocks from lo on and below hi. -/
structure OwnII (w : World) (lo hi : Nat) (A : Option Addr) (n c : Nat) (L : Nat → List Int) : Prop where
  cells : ∃ ys, w.ownsRow lo 24 1 (.slice A n c) n ys ∧ Sub w lo hi ys 1 0 L 0 n
  top : ∀ k, rowOf A = some k → k < hi
  small : n ≤ 1099511627776
section
variable {w w' : World} {A : Option Addr} {n c lo hi : Nat} {L : Nat → List Int}
theorem OwnII.keep (h : OwnII w lo hi A n c L) (hk : ∀ g, lo ≤ g → g < hi → g < w.heap.size → w'.heap[g]? = w.heap[g]?) : OwnII w' lo hi A n c L := by
  obtain ⟨ys, h1, h3⟩ := h.cells
  exact ⟨⟨ys, row_keep h1 fun g hl hA hg => hk g hl (h.top g hA) hg, h3.keep hk⟩, h.top, h.small⟩
theorem OwnII.below (h : OwnII w lo hi A n c L) (hb : Below w.heap.size w w') : OwnII w' lo hi A n c L := h.keep fun g _ _ hg => hb.block g hg
theorem OwnII.chg {lo' hi' : Nat} (h : OwnII w lo hi A n c L) (hc : Chg lo' hi' w w') (hd : hi ≤ lo' ∨ hi' ≤ lo) : OwnII w' lo hi A n c L := h.keep fun g h1 h2 hg => hc.block g hg (by omega)
theorem OwnII.drewN (h : OwnII w lo hi A n c L) (q : Nat) : OwnII (w.drewN q) lo hi A n c L := h.keep fun _ _ _ _ => rfl
/-- What it reads as. -/
def IntsS (w : World) (A : Option Addr) (n : Nat) (L : Nat → List Int) : Prop :=
  0 < n → ∃ ad, A = some ad ∧ ∀ j, j < n → ∃ V c, w.cell? (ad.add j) = some (.slice V (L j).length c) ∧ Ints w V (L j).length (L j)
theorem IntsS.at_ {k : Nat} (h : IntsS w A n L) (hk : k < n) : ∃ ad, A = some ad ∧ ∃ V c, w.cell? (ad.add k) = some (.slice V (L k).length c) ∧ Ints w V (L k).length (L k) := by
  obtain ⟨ad, e, hc⟩ := h (by omega)
  exact ⟨ad, e, hc k hk⟩
theorem IntsS.below (h : IntsS w A n L) (hb : Below w.heap.size w w') : IntsS w' A n L := fun hn => by
  obtain ⟨ad, e, hc⟩ := h hn
  refine ⟨ad, e, fun j hj => ?_⟩
  obtain ⟨V, c, c0, hi⟩ := hc j hj
  exact ⟨V, c, (hb.cell (block_lt_of_cell c0)).trans c0, hi.below hb⟩
theorem OwnII.read (h : OwnII w lo hi A n c L) : IntsS w A n L := fun hn => by
  obtain ⟨ys, ho, hs⟩ := h.cells
  obtain ⟨g, rfl, _, _⟩ := row_head ho hn
  have hl := ho.1
  refine ⟨_, rfl, fun j hj => ?_⟩
  rw [addr_add0]
  obtain ⟨V, m, e2, hV⟩ := hs.row j (by omega) hj
  rw [Nat.mul_one, Nat.add_zero] at e2
  exact ⟨V, m, (World.ownsRow.cellAt ho j (by omega)).trans e2, hV.ints⟩
end
theorem Try.infoIntS : (Try.prog.info? 24).map (fun i => (i.zero, i.size, i.bytes)) = some (some (.slice none 0 0), 1, 24) := by kernel_rfl
theorem madeRows (n : Nat) : ∀ t, t < n → (madeCells (Value.slice none 0 0).cells (n * 1)).toList[t * 1 + 0]? = some (.slice none 0 0) := fun t ht => by
  rw [made_at _ _ _ (by omega)]
  simp [Value.cells, Nat.mod_one]
/-- The i-th row becomes another, and the outer row's cell with it. -/
theorem sets_step {wr w2 : World} {lo g n c0 i m c c2 : Nat} {V V2 : Option Addr} {ys : List Value} {L : Nat → List Int} {l : List Int} (ho : wr.ownsRow lo 24 1 (.slice (some ⟨g, 0, none⟩) n c0) n ys) (hs : Sub wr lo wr.heap.size ys 1 0 L 0 n) (hi : i < n)
    (hV : ys[i]? = some (.slice V m c)) (hg : wr.grownBy w2 (rowOf V)) (hown : Own w2 lo V2 l.length c2 l) (hsm : l.length ≤ 1099511627776) (hb : rowOf V2 = none ∨ rowOf V2 = rowOf V ∨ ∃ b, rowOf V2 = some b ∧ wr.heap.size ≤ b) :
    (w2.setCell ⟨g, i, none⟩ (.slice V2 l.length c2)).ownsRow lo 24 1 (.slice (some ⟨g, 0, none⟩) n c0) n (ys.set i (.slice V2 l.length c2)) ∧
      Sub (w2.setCell ⟨g, i, none⟩ (.slice V2 l.length c2)) lo w2.heap.size (ys.set i (.slice V2 l.length c2)) 1 0 (upd L i l) 0 n := by
  have e1 : i * 1 + 0 = i := by omega
  obtain ⟨V', c', e', hV'⟩ := hs.row i (Nat.zero_le _) hi
  have e'' := e'
  rw [e1, hV] at e''
  simp only [Option.some.injEq, Value.slice.injEq] at e''
  obtain ⟨rfl, em, rfl⟩ := e''
  have o2 : w2.ownsRow lo 24 1 (.slice (some ⟨g, 0, none⟩) n c0) n ys := World.ownsRow.kept ho hg (.inr (fun e => row_ne hV'.own ho (by decide) e.symm))
  have s2 := hs.set (V2 := V2) (c2 := c2) (l := l) (i := i) (w' := w2) (by omega) hi ho.1 (by rw [e1]; exact hV) hg hown hsm hb
  rw [e1] at s2
  exact ⟨(World.ownsRow.stored o2 i (.slice V2 l.length c2)).1, s2.farRow o2 (by decide)⟩

theorem own_box_ne {w : World} {B n c b : Nat} {V : Option Addr} {xs : List Int} {cs : Array Value} {T : TypeId} (ho : Own w B V n c xs) (h : w.heap[b]? = some (.cells cs T (0, 0))) (hT : T ≠ 3) : rowOf V ≠ some b := by
  intro e
  rcases ho.2 with ⟨h0, _⟩ | ⟨b', cap', cur', hv', _, hh, _⟩
  · injection h0 with h0; subst h0; cases e
  · injection hv' with hv'
    subst hv'
    simp only [rowOf, Option.some.injEq] at e
    subst e
    rw [h] at hh
    injection hh with hh
    injection hh with _ hh
    exact hT hh
theorem RecsR.later {w w' : World} {A : Option Addr} {n k : Nat} {rs : List RecD} (h : RecsR w A n rs) (hb : Below w.heap.size w w') (hk : k < n) : ∃ ad, A = some ad ∧ w'.cell? (ad.add (k * 3)) = some (.int .i64 (rA rs k)) ∧ w'.cell? ⟨(ad.add (k * 3)).block, (ad.add (k * 3)).off + 1, none⟩ = some (.int .i64 (rH rs k)) ∧
    ∃ V m c, w'.cell? ⟨(ad.add (k * 3)).block, (ad.add (k * 3)).off + 2, none⟩ = some (.slice V m c) ∧ Ints w V m (rV rs k) := by
  obtain ⟨ad, e, c0, c1, V, m, c, c2, hv⟩ := h.at_ hk
  exact ⟨ad, e, (hb.cell (block_lt_of_cell c0)).trans c0, (hb.cell (block_lt_of_cell c1)).trans c1, V, m, c, (hb.cell (block_lt_of_cell c2)).trans c2, hv⟩

/-- The indices below k that pass, in order. -/
def linkK (p : Nat → Bool) (k : Nat) : List Int := ((List.range k).filter p).map fun (i : Nat) => (i : Int)
theorem linkK_yes {p : Nat → Bool} {k : Nat} (h : p k = true) : linkK p (k + 1) = linkK p k ++ [(k : Int)] := by simp [linkK, List.range_succ, h]
theorem linkK_no {p : Nat → Bool} {k : Nat} (h : p k = false) : linkK p (k + 1) = linkK p k := by simp [linkK, List.range_succ, h]
theorem linkK_len (p : Nat → Bool) (k : Nat) : (linkK p k).length ≤ k := by
  have := List.length_filter_le p (List.range k)
  simpa [linkK] using this
/-- The i-th record of rs and the k-th of qs are of one class. -/
def lnk (vs : List (ByteArray × Int)) (us : List Int) (rs qs : List RecD) (i k : Nat) : Bool := sameB (rA rs i) (keyV vs (rV rs i) us) (rA qs k) (keyV vs (rV qs k) us)
def setL (vs : List (ByteArray × Int)) (us : List Int) (rs qs : List RecD) (i : Nat) : List Int := linkK (lnk vs us rs qs i) qs.length
/-- The sets behind i whole rounds and j steps of the next. -/
def midL (vs : List (ByteArray × Int)) (us : List Int) (rs qs : List RecD) (i j : Nat) : Nat → List Int := fun t => if t < i then setL vs us rs qs t else if t = i then linkK (lnk vs us rs qs i) j else []
theorem midL_at (vs : List (ByteArray × Int)) (us : List Int) (rs qs : List RecD) (i j : Nat) : midL vs us rs qs i j i = linkK (lnk vs us rs qs i) j := by simp [midL]
theorem midL_yes {vs : List (ByteArray × Int)} {us : List Int} {rs qs : List RecD} {i j : Nat} (h : lnk vs us rs qs i j = true) : upd (midL vs us rs qs i j) i (linkK (lnk vs us rs qs i) j ++ [(j : Int)]) = midL vs us rs qs i (j + 1) := by
  funext t
  unfold upd midL
  by_cases e : t = i
  · subst e; simp [linkK_yes h]
  · simp [e]
theorem midL_no {vs : List (ByteArray × Int)} {us : List Int} {rs qs : List RecD} {i j : Nat} (h : lnk vs us rs qs i j = false) : midL vs us rs qs i j = midL vs us rs qs i (j + 1) := by
  funext t
  unfold midL
  by_cases e : t = i
  · subst e; simp [linkK_no h]
  · simp [e]
theorem midL_end {vs : List (ByteArray × Int)} {us : List Int} {rs qs : List RecD} {i m : Nat} (h : qs.length = m) : midL vs us rs qs i m = midL vs us rs qs (i + 1) 0 := by
  funext t
  unfold midL setL
  by_cases e : t = i
  · subst e; simp [h]
  · by_cases e2 : t < i
    · simp [e2, Nat.lt_succ_of_lt e2]
    · have e3 : ¬ t < i + 1 := by omega
      by_cases e4 : t = i + 1
      · subst e4; rw [if_neg e2, if_neg e, if_neg e3, if_pos rfl]; rfl
      · rw [if_neg e2, if_neg e, if_neg e3, if_neg e4]
theorem midL_zero (vs : List (ByteArray × Int)) (us : List Int) (rs qs : List RecD) (t : Nat) : midL vs us rs qs 0 0 t = [] := by
  unfold midL linkK
  by_cases e : t = 0 <;> simp [e]

/-- All records fit a schema and key variables. -/
structure AllOk (vs : List (ByteArray × Int)) (rs : List RecD) (us : List Int) (n : Nat) : Prop where
  len : vs.length = n
  s : schB vs = true
  d : dataB vs rs = true
  r : risB us n = true
theorem AllOk.at_ {vs : List (ByteArray × Int)} {rs : List RecD} {us : List Int} {n : Nat} (h : AllOk vs rs us n) {i : Nat} (hi : i < rs.length) : KeyOk vs (rV rs i) us n :=
  ⟨h.len, h.s, by have := (dataB_of h.d).2 i hi; unfold recOk at this; exact recB_vals this, h.r⟩
theorem AllOk.part {vs : List (ByteArray × Int)} {rs : List RecD} {us : List Int} {n : Nat} (h : AllOk vs rs us n) : PartOk vs us n := ⟨h.len, h.s, h.r⟩
theorem AllOk.forty {vs : List (ByteArray × Int)} {rs : List RecD} {us : List Int} {n : Nat} (h : AllOk vs rs us n) : rs.length ≤ 40 := (dataB_of h.d).1
theorem keyed_all {vs : List (ByteArray × Int)} {rs : List RecD} {us : List Int} {n : Nat} (hl : vs.length = n) (h : keyedB vs rs us = true) : AllOk vs rs us n := by
  simp only [keyedB, Bool.and_eq_true] at h
  exact ⟨hl, h.1, h.2.1, by rw [← hl]; exact h.2.2⟩
theorem linked_all {vs : List (ByteArray × Int)} {rs qs : List RecD} {us : List Int} {n : Nat} (hl : vs.length = n) (h : linkedB vs rs qs us = true) : AllOk vs rs us n ∧ AllOk vs qs us n := by
  simp only [linkedB, Bool.and_eq_true] at h
  have h1 := keyed_all hl h.1
  exact ⟨h1, h1.len, h1.s, h.2, h1.r⟩
end

section
open Go.RowKit

set_option maxHeartbeats 800000 in
theorem eqIntSS_law (A A' : Option Addr) (n c c' : Nat) (L : Nat → List Int) (w : World) (hx : IntsS w A n L) (hy : IntsS w A' n L) (hn : n ≤ 1099511627776) (hL : ∀ j, j < n → (L j).length ≤ 1099511627776) :
    Calls Try.prog 10 #[.slice A n c, .slice A' n c'] w fun e w' => e = .returned (.bool true) ∧ Below w.heap.size w w' := by
  go_enter Try.func10, Try.ntmps10
  go_wp2
  go_loopw [5] (fun i wr => ∃ (k : Nat), k ≤ n ∧ i = .int .i64 k ∧ Below w.heap.size w wr) (fun i _ => n - (intOf i).toNat)
  case atStart => exact ⟨0, Nat.zero_le _, rfl, Below.refl _ _⟩
  case round =>
    obtain ⟨k, hk, rfl, hbw⟩ := hrel
    by_cases hlt : k < n
    · obtain ⟨ad, rfl, V, cc, hc, hv⟩ := (hx.below hbw).at_ hlt
      obtain ⟨ad', rfl, V', cc', hd, hv'⟩ := (hy.below hbw).at_ hlt
      have hm := hL k hlt
      clear hx hy hL
      have HV := Lib.hid hv
      have HV' := Lib.hid hv'
      clear hv hv'
      generalize L k = xs at *
      generalize xs.length = m at *
      have hsz := hbw.size
      have l0 := block_lt_of_cell hc
      have m0 := block_lt_of_cell hd
      go_wp2
      go_region_held3 (fun w2 => w2.cell? (ad.add k) = some (.slice V m cc) ∧ w2.cell? (ad'.add k) = some (.slice V' m cc')) (go_keep) ((go_at_call 43; refine (eqIntS_law _ _ m _ _ xs _ (by exact HV.out) (by exact HV'.out) hm).mono ?_; rintro e w2 ⟨rfl, hb2⟩; have g1 := (hb2.cell l0).trans hc; have g4 := (hb2.cell m0).trans hd; have hbw2 := hbw.drew.trans (hb2.mono hsz)))
      go_wp2
      go_roundw
      case rel => exact ⟨k + 1, by omega, by go_num, hbw2⟩
      case measure => simp [intOf]; omega
    · go_wp2
      go_ret
      exact ⟨rfl, hbw⟩

/-- How many numbers the rows below j hold. -/
def sumLen (L : Nat → List Int) : Nat → Nat
  | 0 => 0
  | j + 1 => sumLen L j + (L j).length
def markL (k0 : Int) (L : Nat → List Int) (j : Nat) : List Int := marks (k0 + sumLen L j) (L j).length
def markTo (k0 : Int) (L : Nat → List Int) (j : Nat) : Nat → List Int := fun t => if t < j then markL k0 L t else L t
theorem markTo_step (k0 : Int) (L : Nat → List Int) (j : Nat) : upd (markTo k0 L j) j (marks (k0 + sumLen L j) (L j).length) = markTo k0 L (j + 1) := by
  funext t
  unfold upd markTo markL
  by_cases e : t = j
  · subst e; simp
  · by_cases e2 : t < j
    · simp [e, e2, Nat.lt_succ_of_lt e2]
    · have e3 : ¬ t < j + 1 := by omega
      simp [e, e2, e3]
theorem sumLen_le {L : Nat → List Int} {n : Nat} (hL : ∀ j, j < n → (L j).length ≤ 1048576) : ∀ j, j ≤ n → sumLen L j ≤ j * 1048576 := by
  intro j
  induction j with
  | zero => intro _; simp [sumLen]
  | succ j ih => intro hj; have h1 := ih (by omega); have h2 := hL j (by omega); simp only [sumLen]; omega
/-- A row is marked in place: the outer cells stay. -/
theorem Sub.setIn {w w' : World} {lo hi : Nat} {ys : List Value} {L : Nat → List Int} {n i m c : Nat} {V : Option Addr} {l : List Int} (h : Sub w lo hi ys 1 0 L 0 n) (hi' : i < n) (hV : ys[i]? = some (.slice V m c)) (hlm : l.length = m)
    (hg : w.grownBy w' (rowOf V)) (ho : Own w' lo V m c l) : Sub w' lo hi ys 1 0 (upd L i l) 0 n := by
  subst hlm
  have e1 : ∀ t : Nat, t * 1 + 0 = t := fun t => by omega
  refine ⟨fun j h1 h2 => ?_, h.apart⟩
  obtain ⟨V3, c3, e3, ho3⟩ := h.row j h1 h2
  by_cases e : j = i
  · subst e
    rw [e1, hV] at e3
    simp only [Option.some.injEq, Value.slice.injEq] at e3
    obtain ⟨rfl, em, rfl⟩ := e3
    rw [e1, upd_at]
    refine ⟨V, c, hV, ⟨ho, ho3.top, ?_⟩⟩
    rw [em]; exact ho3.small
  · rw [upd_ne _ _ e]
    refine ⟨V3, c3, e3, ⟨ho3.own.far hg (fun g hA eg => ?_), ho3.top, ho3.small⟩⟩
    have hVi : (ys[i * 1 + 0]?).bind Value.ownBlock = some g := by rw [e1, hV]; simpa [ownBlock_rowOf] using eg
    have hVj : (ys[j * 1 + 0]?).bind Value.ownBlock = some g := by rw [e3, hA]; rfl
    rcases Nat.lt_or_ge j i with h4 | h4
    · exact h.apart j i g (by omega) h4 hi' hVj hVi
    · exact h.apart i j g (by omega) (by omega) h2 hVi hVj

set_option maxHeartbeats 1000000 in
theorem markIntSS_law (A : Option Addr) (lo hi n c : Nat) (k0 : Int) (L : Nat → List Int) (w : World) (hx : OwnII w lo hi A n c L) (hn : n ≤ 1048576) (hL : ∀ j, j < n → (L j).length ≤ 1048576) (h0 : 0 ≤ k0) (h1 : k0 ≤ 2305843009213693952) :
    Calls Try.prog 11 #[.slice A n c, .int .i64 k0] w fun e w' => e = .returned (.int .i64 (k0 + sumLen L n)) ∧ OwnII w' lo hi A n c (markL k0 L) ∧ Chg lo hi w w' := by
  have htop := hx.top
  have hsm := hx.small
  obtain ⟨y0, hown, hsub⟩ := hx.cells
  clear hx
  have hsl := Lib.hid (sumLen_le hL)
  go_enter Try.func11, Try.ntmps11
  go_wp2
  go_loopw [1, 5] (fun a i wr => ∃ (j : Nat), j ≤ n ∧ i = .int .i64 j ∧ a = .int .i64 (k0 + sumLen L j) ∧ wr.ownsRow lo 24 1 (.slice A n c) n y0 ∧ Sub wr lo hi y0 1 0 (markTo k0 L j) 0 n ∧ Chg lo hi w wr) (fun _ i _ => n - (intOf i).toNat)
  case atStart => exact ⟨0, Nat.zero_le _, rfl, by simp [sumLen], hown, hsub.fn (fun t _ _ => by simp [markTo]), Chg.refl _ _ _⟩
  case round =>
    clear hown hsub
    obtain ⟨j, hj, rfl, rfl, hown, hsub, hbw⟩ := hrel
    by_cases hjn : j < n
    · obtain ⟨g, rfl, hlg, hgs⟩ := row_head hown (by omega)
      obtain ⟨V, cc, e2, hV⟩ := hsub.row j (Nat.zero_le _) hjn
      rw [Nat.mul_one, Nat.add_zero] at e2
      have hLj : markTo k0 L j j = L j := by simp [markTo]
      rw [hLj] at e2 hV
      have hm := hL j hjn
      have hsj := hsl.out j (by omega)
      have HM := Lib.hid (markTo_step k0 L j)
      have hc2 : wr.cell? ⟨g, j, none⟩ = some (.slice V (L j).length cc) := (World.ownsRow.cellAt hown j (by have := hown.1; omega)).trans e2
      have HS := Lib.hid (show ((sumLen L j : Nat) : Int) + (L j).length = (sumLen L (j + 1) : Nat) by simp [sumLen])
      have Q := Lib.hid (fun w3 (hg : wr.grownBy w3 (rowOf V)) (ho : Own w3 lo V (L j).length cc (marks (k0 + sumLen L j) (L j).length)) => And.intro (hsub.setIn hjn e2 (marks_len _ _) hg ho) (And.intro (World.ownsRow.kept hown hg (by
        have := row_ne hV.own hown (by decide)
        exact .inr (fun e => this e.symm))) (hbw.trans (Chg.of_grown hg hV.row))))
      have HV := Lib.hid hV.own
      clear hown hsub hV hbw hL e2 hLj
      generalize (L j).length = m at *
      generalize hs1 : sumLen L j = s at *
      have hs1' := Lib.hid hs1
      clear hs1
      go_wp2_with (go_at_call 44; refine (markIntS_any V lo m cc (k0 + s) (L j) _ HV.out (by omega) (by omega) (by omega)).mono ?_; rintro e w3 ⟨rfl, ho3, hg3⟩; obtain ⟨q1, q2, q3⟩ := Q.out w3 hg3 ho3; have Q1 := Lib.hid q1; have Q2 := Lib.hid q2; have Q3 := Lib.hid q3; clear q1 q2 q3 hg3 ho3)
      go_roundw
      case rel => exact ⟨j + 1, by omega, by go_num, val_int (by have := HS.out; omega), Q2.out, by rw [← HM.out]; exact Q1.out, Q3.out⟩
      case measure => simp [intOf]; omega
    · obtain rfl : j = n := by omega
      have R := Lib.hid (hsub.fn (L' := markL k0 L) (fun t _ ht => by simp [markTo, ht]))
      go_wp2
      go_ret
      exact ⟨rfl, ⟨⟨y0, hown, R.out⟩, htop, hsm⟩, hbw⟩

set_option maxHeartbeats 1000000 in
theorem heldIntSS_law (A : Option Addr) (n c : Nat) (k0 : Int) (L : Nat → List Int) (w : World) (hx : IntsS w A n (markL k0 L)) (hn : n ≤ 1048576) (hL : ∀ j, j < n → (L j).length ≤ 1048576) (h0 : 0 ≤ k0) (h1 : k0 ≤ 2305843009213693952) :
    Calls Try.prog 45 #[.slice A n c, .int .i64 k0] w fun e w' => e = .returned (.int .i64 (k0 + sumLen L n)) ∧ Below w.heap.size w w' := by
  have hsl := Lib.hid (sumLen_le hL)
  go_enter Try.func45, Try.ntmps45
  go_wp2
  go_loopw [1, 5] (fun a i wr => ∃ (j : Nat), j ≤ n ∧ i = .int .i64 j ∧ a = .int .i64 (k0 + sumLen L j) ∧ wr = w) (fun _ i _ => n - (intOf i).toNat)
  case atStart => exact ⟨0, Nat.zero_le _, rfl, by simp [sumLen], rfl⟩
  case round =>
    obtain ⟨j, hj, rfl, rfl, rfl⟩ := hrel
    by_cases hjn : j < n
    · obtain ⟨ad, rfl, V, cc, hc, hv⟩ := hx.at_ hjn
      have hm := hL j hjn
      have hsj := hsl.out j (by omega)
      have HS := Lib.hid (show ((sumLen L j : Nat) : Int) + (L j).length = (sumLen L (j + 1) : Nat) by simp [sumLen])
      have HV : Hid (Ints wr V (L j).length (marks (k0 + sumLen L j) (L j).length)) := Lib.hid (by simpa [markL, marks_len] using hv)
      have hc' : wr.cell? (ad.add j) = some (.slice V (L j).length cc) := by simpa [markL, marks_len] using hc
      clear hx hc hv hL
      generalize (L j).length = m at *
      generalize sumLen L j = s at *
      go_wp2_with (go_at_call 46; refine (heldIntS_any V m cc (k0 + s) _ HV.out (by omega) (by omega) (by omega)).mono ?_; rintro e w3 ⟨rfl, rfl⟩)
      go_roundw
      case rel => exact ⟨j + 1, by omega, by go_num, val_int (by have := HS.out; omega), trivial⟩
      case measure => simp [intOf]; omega
    · obtain rfl : j = n := by omega
      go_wp2
      go_ret
      exact ⟨rfl, Below.refl _ _⟩

/-- LinkSets' count of rows. -/
def lsN (vs : List (ByteArray × Int)) (rs qs : List RecD) (us : List Int) : Nat := if linkedB vs rs qs us = true then rs.length else 0
theorem lsN_yes {vs : List (ByteArray × Int)} {rs qs : List RecD} {us : List Int} (h : linkedB vs rs qs us = true) : lsN vs rs qs us = rs.length := by rw [lsN, if_pos h]
theorem lsN_no {vs : List (ByteArray × Int)} {rs qs : List RecD} {us : List Int} (h : linkedB vs rs qs us = false) : lsN vs rs qs us = 0 := by rw [lsN, if_neg (by simp [h])]
theorem OwnII.nil_ {w : World} {lo hi : Nat} {L : Nat → List Int} : OwnII w lo hi none 0 0 L := ⟨⟨[], World.ownsRow_nil _ _ _ _, ⟨fun j _ h => absurd h (by omega), fun i j g _ h1 h2 => absurd h2 (by omega)⟩⟩, (fun k hk => by cases hk), by omega⟩
theorem OwnII.fit {w : World} {A : Option Addr} {n c lo lo' hi : Nat} {L : Nat → List Int} (h : OwnII w lo hi A n c L) (hl : lo' ≤ lo) : OwnII w lo' w.heap.size A n c L := by
  obtain ⟨ys, h1, h2⟩ := h.cells
  refine ⟨⟨ys, ?_, h2.fit hl⟩, fun g hg => (World.ownsRow.lt h1 g (by simpa [ownBlock_row] using hg)).2, h.small⟩
  refine ⟨h1.1, ?_⟩
  rcases h1.2 with h0 | ⟨g, cap, cur, hv, hb, hr⟩
  · exact .inl h0
  · exact .inr ⟨g, cap, cur, hv, by omega, hr⟩

def RetSets (w : World) (n : Nat) (b : Bool) (L : Nat → List Int) (e : Ending) (w' : World) : Prop :=
  ∃ A' c', e = .returned (.tuple #[.slice A' n c', .bool b]) ∧ OwnII w' w.heap.size w'.heap.size A' n c' L ∧ Below w.heap.size w w'
end
end Go.Proofs.Ytcjmapdeopffcaa
