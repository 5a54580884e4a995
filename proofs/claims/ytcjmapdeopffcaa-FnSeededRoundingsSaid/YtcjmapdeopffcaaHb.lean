/- Several small texts in one: MxT, MxA, RowG, MxC. -/
import Derived.Test.YtcjmapdeopffcaaZg
import Derived.Test.YtcjmapdeopffcaaHa
import Derived.Test.YtcjmapdeopffcaaZf
import Derived.Test.YtcjmapdeopffcaaZc
import Derived.Deep.RegionLaw
namespace Go.Proofs.Ytcjmapdeopffcaa

section
open Go.RowKit

set_option maxRecDepth 100000 in
set_option maxHeartbeats 400000 in
theorem szIntSS_any (A : Option Addr) (n c : Nat) (k : Int) (L : Nat → List Int) (w : World) (hx : IntsS w A n L) (hs : ∀ j, j < n → (L j).length ≤ 9223372036854775807) (hn : n ≤ 9223372036854775807) (h0 : 0 ≤ k) (h1 : k ≤ 1099511627776) :
    Calls Try.prog 5 #[.slice A n c, .int .i64 k] w fun e w' => (∃ r, e = .returned (.int .i64 r) ∧ -1 ≤ r ∧ r ≤ k ∧ (0 ≤ r → n + r ≤ k ∧ ∀ j, j < n → ((L j).length : Int) ≤ k)) ∧ Below w.heap.size w w' := by
  go_enter Try.func5, Try.ntmps5
  by_cases hlt : k - n < 0
  · go_wp2
    go_ret
    exact ⟨⟨-1, rfl, by omega, by omega, fun h => absurd h (by omega)⟩, Below.refl _ _⟩
  go_wp2
  go_loopw [1, 5] (fun a i wr => ∃ (j : Nat) (r : Int), j ≤ n ∧ i = .int .i64 j ∧ a = .int .i64 r ∧ 0 ≤ r ∧ r ≤ k - n ∧ Hid (∀ t, t < j → ((L t).length : Int) ≤ k) ∧ Below w.heap.size w wr) (fun _ i _ => n - (intOf i).toNat)
  case atStart => exact ⟨0, k - n, Nat.zero_le _, rfl, by go_num, by omega, by omega, Lib.hid fun t ht => absurd ht (by omega), Below.refl _ _⟩
  case round =>
    obtain ⟨j, r, hj, rfl, rfl, hr0, hr1, hall, hbw⟩ := hrel
    by_cases hjn : j < n
    · obtain ⟨ad, rfl, V, cc, hc, hv⟩ := (hx.below hbw).at_ hjn
      have hsj := hs j hjn
      have Q := Lib.hid (fun (x : Int) (hx : (x : Int) ≤ k) (e : ((L j).length : Int) ≤ x) => (show ∀ t, t < j + 1 → ((L t).length : Int) ≤ k from fun t ht => by
        rcases Nat.lt_or_ge t j with h | h
        · exact hall.out t h
        · obtain rfl : t = j := by omega
          omega))
      clear hx hs hall hv
      generalize (L j).length = m at *
      have F := szi_in m r hr0
      by_cases hneg : szi m r < 0
      · go_wp2_with (go_at_call 24; refine (szIntS_any _ m _ r _ hsj hr0 (by omega)).mono ?_; rintro e w2 ⟨rfl, rfl⟩)
        go_ret
        exact ⟨⟨-1, rfl, by omega, by omega, fun h => absurd h (by omega)⟩, hbw⟩
      · go_wp2_with (go_at_call 24; refine (szIntS_any _ m _ r _ hsj hr0 (by omega)).mono ?_; rintro e w2 ⟨rfl, rfl⟩)
        go_roundw
        case rel => exact ⟨j + 1, szi m r, by omega, by go_num, rfl, by omega, by omega, Lib.hid (Q.out r (by omega) (by have := F.2 (by omega); omega)), hbw⟩
        case measure => simp [intOf]; omega
    · obtain rfl : j = n := by omega
      go_wp2
      go_ret
      exact ⟨⟨r, rfl, by omega, by omega, fun _ => ⟨by omega, hall.out⟩⟩, hbw⟩

theorem row_one {w : World} {lo n c g k : Nat} {T : TypeId} {ys : List Value} (h : w.ownsRow lo T 1 (.slice (some ⟨g, 0, none⟩) n c) n ys) (hk : k < n) : (∃ u, w.cell? ⟨g, k, none⟩ = some u) ∧ w.frozen? ⟨g, k, none⟩ = false := by
  have hl := h.1
  refine ⟨⟨ys[k]'(by omega), ?_⟩, World.ownsRow.frozenAt h _⟩
  rw [World.ownsRow.cellAt h _ (by omega), List.getElem?_eq_getElem]

/-- One round of the turning of rows. -/
theorem rowsTo_step {wr w2 : World} {lo k n V2n c2 g : Nat} {V2 : Option Addr} {L : Nat → List Int} {ys : List Value} (hag : ∀ t, k ≤ t → t < n → ys[t]? = some (.slice none 0 0)) (ho : wr.ownsRow lo 24 1 (.slice (some ⟨g, 0, none⟩) n n) n ys) (hs : Sub wr lo wr.heap.size ys 1 0 (upTo L k) 0 n)
    (hlo : lo ≤ wr.heap.size) (hk : k < n) (hb : Below wr.heap.size wr w2) (hV : (L k).length = V2n) (hv : OwnI w2 wr.heap.size w2.heap.size V2 V2n c2 (L k)) :
    ∃ zs : List Value, (∀ t, k + 1 ≤ t → t < n → zs[t]? = some (.slice none 0 0)) ∧ (w2.setCell ⟨g, k, none⟩ (.slice V2 V2n c2)).ownsRow lo 24 1 (.slice (some ⟨g, 0, none⟩) n n) n zs ∧
      Sub (w2.setCell ⟨g, k, none⟩ (.slice V2 V2n c2)) lo w2.heap.size zs 1 0 (upTo L (k + 1)) 0 n := by
  subst hV
  obtain ⟨T1, T2⟩ := sets_step (l := L k) (c2 := c2) (V2 := V2) ho hs hk (hag k (Nat.le_refl _) hk) (grown_none hb _) (hv.own.mono hlo) hv.small (by
    cases e : rowOf V2 with
    | none => exact .inl rfl
    | some b => exact .inr (.inr ⟨b, rfl, (hv.own.row_ge b e).1⟩))
  rw [upTo_step] at T2
  exact ⟨_, fun t ht hn => by rw [List.getElem?_set_ne (by omega)]; exact hag t (by omega) hn, T1, T2⟩

set_option maxRecDepth 100000 in
set_option maxHeartbeats 800000 in
theorem toIntSS_law (A : Option Addr) (n c : Nat) (L : Nat → List Int) (w : World) (hx : IntsS w A n L) (hn : n ≤ 1099511627776) (hs : ∀ j, j < n → (L j).length ≤ 1099511627776) :
    Calls Try.prog 7 #[.slice A n c] w fun e w' => ∃ A' c', e = .returned (.slice A' n c') ∧ OwnII w' w.heap.size w'.heap.size A' n c' L ∧ Below w.heap.size w w' := by
  obtain ⟨i0, hi, hz0, hz1, hz2⟩ := info_parts Try.infoIntS
  go_enter Try.func7, Try.ntmps7
  go_wp2_with (at_make; refine wpList_make_full _ rfl _ _ 22 rfl w.heap.size 24 i0 _ 1 Try.underlying22 hi hz0 hz1 .i64 .i64 _ _ n rfl rfl rfl rfl (by rw [hz2]; omega) (by unfold maxLen; omega) (Nat.le_refl _) ?_; intro w1 hown hg)
  have hA : ∀ t, 0 ≤ t → t < n → (madeCells (Value.slice none 0 0).cells (n * 1)).toList[t]? = some (.slice none 0 0) := fun t _ ht => by have h := madeRows n t ht; simp only [Nat.mul_one, Nat.add_zero] at h ⊢; exact h
  have hS : Sub w1 w.heap.size w1.heap.size (madeCells (Value.slice none 0 0).cells (n * 1)).toList 1 0 (upTo L 0) 0 n := Sub.nils (fun j hj => madeRows n j hj) (fun j _ => by simp [upTo])
  generalize (madeCells (Value.slice none 0 0).cells (n * 1)).toList = y0 at *
  have hb1 : Below w.heap.size w w1 := (Below.refl _ _).grown hg (Nat.le_refl _) (by simp)
  have HA := Lib.hid hA
  clear hg hi hz0 hz1 hz2 hA
  go_loopw [4] (fun i wr => ∃ (k : Nat) (ys : List Value), k ≤ n ∧ i = .int .i64 k ∧ Hid (∀ t, k ≤ t → t < n → ys[t]? = some (.slice none 0 0)) ∧ wr.ownsRow w.heap.size 24 1 (.slice (some ⟨w.heap.size, 0, none⟩) n n) n ys ∧ Sub wr w.heap.size wr.heap.size ys 1 0 (upTo L k) 0 n ∧ Below w.heap.size w wr) (fun i _ => n - (intOf i).toNat)
  case atStart => exact ⟨0, _, Nat.zero_le _, rfl, HA, hown, hS, hb1⟩
  case round =>
    clear HA hown hb1 hS
    obtain ⟨k, ys, hk, rfl, hag, hown, hsub, hbw⟩ := hrel
    by_cases hlt : k < n
    · obtain ⟨ad, rfl, V, cc, hc, hv⟩ := (hx.below hbw).at_ hlt
      have hm := hs k hlt
      have R1 := Lib.hid (fun w2 V2 c2 (hb : Below wr.heap.size wr w2) => rowsTo_step (V2n := (L k).length) (c2 := c2) (V2 := V2) hag.out hown hsub hbw.size hlt hb rfl)
      have HO := Lib.hid hown
      have HB := Lib.hid hbw
      have HV := Lib.hid hv
      clear hx hag hown hbw hsub hv hs
      generalize (L k).length = m at *
      go_wp2_with (go_at_call 35; refine (toIntS_law V m cc (L k) _ HV.out hm).mono ?_; rintro e w2 ⟨V2, c2, rfl, o2, hb2⟩; obtain ⟨zs, r1, r2, r3⟩ := R1.out w2 V2 c2 hb2 o2; have R2 := Lib.hid r1; have R3 := Lib.hid r2; have R4 := Lib.hid r3; have R5 := Lib.hid (HB.out.trans (hb2.mono HB.out.size)); have R6 := Lib.hid (row_below HO.out hb2); obtain ⟨⟨u0, hu0⟩, hf0⟩ := row_one R6.out hlt; clear r1 r2 r3 o2 hb2)
      go_roundw
      case rel => exact ⟨k + 1, zs, by omega, by go_num, R2, R3.out, (R4.out.fit (Nat.le_refl _)), R5.out.setCell (Nat.le_refl _) _⟩
      case measure => simp [intOf]; omega
    · obtain rfl : k = n := by omega
      go_wp2
      go_ret
      refine ⟨_, _, rfl, ⟨⟨ys, hown, hsub.fn fun j _ hj => by simp [upTo, hj]⟩, fun g hg => (World.ownsRow.lt hown g (by simpa [rowOf, Value.ownBlock] using hg)).2, hn⟩, hbw⟩
end

section
open Go.RowKit Flo

/-- The first m values of a function. -/
def lst (m : Nat) (g : Nat → Int) : List Int := (List.range m).map g
section
variable {m j : Nat} {g g' : Nat → Int}
theorem lst_len (m : Nat) (g : Nat → Int) : (lst m g).length = m := by simp [lst]
theorem lst_get? (h : j < m) : (lst m g)[j]? = some (g j) := by simp [lst, h]
theorem lst_get (h : j < m) : (lst m g)[j]?.getD 0 = g j := by rw [lst_get? h]; rfl
theorem lst_congr (h : ∀ j, j < m → g j = g' j) : lst m g = lst m g' := by
  unfold lst
  exact List.map_congr_left fun j hj => h j (List.mem_range.1 hj)
theorem lst_of (l : List Int) : lst l.length (fun j => l[j]?.getD 0) = l := by
  apply List.ext_getElem? 
  intro i
  rcases Nat.lt_or_ge i l.length with h | h
  · rw [lst_get? h, List.getElem?_eq_getElem h]; rfl
  · rw [List.getElem?_eq_none (by rw [lst_len]; exact h), List.getElem?_eq_none h]
theorem lst_inj (h : lst m g = lst m g') : ∀ j, j < m → g j = g' j := fun j hj => by
  have h1 : (lst m g)[j]? = (lst m g')[j]? := by rw [h]
  rw [lst_get? hj, lst_get? hj] at h1
  exact Option.some.inj h1
theorem lst_set {v : Int} (_hj : j < m) : (lst m g).set j v = lst m (fun k => if k = j then v else g k) := by
  apply List.ext_getElem?
  intro i
  rw [List.getElem?_set]
  rcases Nat.lt_or_ge i m with h | h
  · rw [lst_get? h, lst_get? h, lst_len]
    by_cases e : j = i
    · subst e; simp [h]
    · have e2 : ¬ i = j := fun h => e h.symm
      rw [if_neg e, if_neg e2]
  · rw [List.getElem?_eq_none (l := lst m g) (by rw [lst_len]; exact h), List.getElem?_eq_none (l := lst m _) (by rw [lst_len]; exact h)]
    split
    · rw [if_neg (by rw [lst_len]; omega)]
    · rfl
theorem lst_snoc : lst (m + 1) g = lst m g ++ [g m] := by
  unfold lst
  rw [List.range_succ, List.map_append]; rfl
end
/-- A list and a matrix that are read. -/
abbrev VecR (w : World) (A : Option Addr) (n : Nat) (g : Nat → Int) : Prop := Ints w A n (lst n g)
abbrev MatR (w : World) (A : Option Addr) (n m : Nat) (f : Nat → Nat → Int) : Prop := IntsS w A n (fun i => lst m (f i))
/-- A list and a matrix of the call's own. -/
abbrev Vec (w : World) (lo hi : Nat) (A : Option Addr) (n c : Nat) (g : Nat → Int) : Prop := OwnI w lo hi A n c (lst n g)
abbrev Mat (w : World) (lo hi : Nat) (A : Option Addr) (n c m : Nat) (f : Nat → Nat → Int) : Prop := OwnII w lo hi A n c (fun i => lst m (f i))
section
variable {w w' : World} {A : Option Addr} {n m c lo hi i j : Nat} {g : Nat → Int} {f : Nat → Nat → Int} {L : Nat → List Int}
theorem vecR_at (h : VecR w A n g) (hj : j < n) : ∃ ad, A = some ad ∧ w.cell? (ad.add j) = some (.int .i64 (g j)) := by
  obtain ⟨ad, e, hc⟩ := Ints.at_ h hj
  rw [lst_get hj] at hc
  exact ⟨ad, e, hc⟩
theorem matR_row (h : MatR w A n m f) (hi : i < n) : ∃ ad, A = some ad ∧ ∃ V c, w.cell? (ad.add i) = some (.slice V m c) ∧ VecR w V m (f i) := by
  obtain ⟨ad, e, V, c, hc, hv⟩ := h.at_ hi
  simp only [lst_len] at hc hv
  exact ⟨ad, e, V, c, hc, hv⟩
theorem matR_cell (h : MatR w A n m f) (hi : i < n) (hj : j < m) : ∃ ad av c, A = some ad ∧ w.cell? (ad.add i) = some (.slice (some av) m c) ∧ w.cell? (av.add j) = some (.int .i64 (f i j)) := by
  obtain ⟨ad, e, V, c, hc, hv⟩ := matR_row h hi
  obtain ⟨av, rfl, h1⟩ := vecR_at hv hj
  exact ⟨ad, av, c, e, hc, h1⟩
theorem IntsS.fn {L L' : Nat → List Int} (h : IntsS w A n L) (he : ∀ j, j < n → L' j = L j) : IntsS w A n L' := fun hn => by
  obtain ⟨ad, e, hc⟩ := h hn
  refine ⟨ad, e, fun j hj => ?_⟩
  rw [he j hj]
  exact hc j hj
theorem OwnII.fn {L L' : Nat → List Int} (h : OwnII w lo hi A n c L) (he : ∀ j, j < n → L' j = L j) : OwnII w lo hi A n c L' := by
  obtain ⟨ys, h1, h2⟩ := h.cells
  exact ⟨⟨ys, h1, h2.fn (fun j _ hj => he j hj)⟩, h.top, h.small⟩
theorem matR_fn {f' : Nat → Nat → Int} (h : MatR w A n m f) (he : ∀ i j, i < n → j < m → f' i j = f i j) : MatR w A n m f' := IntsS.fn h fun i hi => lst_congr fun j hj => he i j hi hj
theorem mat_fn {f' : Nat → Nat → Int} (h : Mat w lo hi A n c m f) (he : ∀ i j, i < n → j < m → f' i j = f i j) : Mat w lo hi A n c m f' := OwnII.fn h fun i hi => lst_congr fun j hj => he i j hi hj
/-- One row of a row of rows: what it is, and the way back. -/
theorem OwnII.inner (h : OwnII w lo hi A n c L) (hi' : i < n) : ∃ g0 V cv, A = some ⟨g0, 0, none⟩ ∧ w.cell? ⟨g0, i, none⟩ = some (.slice V (L i).length cv) ∧ OwnI w lo hi V (L i).length cv (L i) ∧ lo ≤ g0 ∧ g0 < hi ∧ g0 < w.heap.size ∧ rowOf V ≠ some g0 ∧
    ∀ w' l, l.length = (L i).length → w.grownBy w' (rowOf V) → Own w' lo V (L i).length cv l → OwnII w' lo hi A n c (upd L i l) := by
  obtain ⟨ys, h1, h2⟩ := h.cells
  obtain ⟨g, rfl, hlg, hgs⟩ := row_head h1 (by omega)
  obtain ⟨V, cc, e2, hV⟩ := h2.row i (Nat.zero_le _) hi'
  rw [Nat.mul_one, Nat.add_zero] at e2
  have hne := row_ne hV.own h1 (by decide)
  refine ⟨g, V, cc, rfl, (World.ownsRow.cellAt h1 i (by have := h1.1; omega)).trans e2, hV, hlg, h.top g rfl, hgs, hne, fun w' l hl hg ho => ?_⟩
  exact ⟨⟨ys, World.ownsRow.kept h1 hg (.inr (fun e => hne e.symm)), h2.setIn hi' e2 hl hg ho⟩, h.top, h.small⟩
/-- One cell of a matrix of the call's own. -/
theorem mat_cell (h : Mat w lo hi A n c m f) (hi' : i < n) (hj : j < m) : ∃ g0 g cv, A = some ⟨g0, 0, none⟩ ∧ w.cell? ⟨g0, i, none⟩ = some (.slice (some ⟨g, 0, none⟩) m cv) ∧ w.cell? ⟨g, j, none⟩ = some (.int .i64 (f i j)) ∧ w.frozen? ⟨g, j, none⟩ = false ∧ lo ≤ g ∧ g < hi ∧ g < w.heap.size ∧ lo ≤ g0 ∧ g0 < hi ∧ g0 < w.heap.size ∧ g ≠ g0 ∧
    ∀ v, Mat (w.setCell ⟨g, j, none⟩ (.int .i64 v)) lo hi A n c m (updM f i j v) := by
  obtain ⟨g0, V, cv, rfl, h1, hV, h2, h3, h4, h5, hback⟩ := OwnII.inner h hi'
  simp only [lst_len] at h1 hV hback
  obtain ⟨g, rfl, h6, h7, h8, h9⟩ := hV.own.at_ hj
  rw [lst_get hj] at h8
  refine ⟨g0, g, cv, rfl, h1, h8, h9, h6, hV.top g rfl, h7, h2, h3, h4, fun e => h5 (by rw [← e]; rfl), fun v => ?_⟩
  have hb := hback (w.setCell ⟨g, j, none⟩ (.int .i64 v)) ((lst m (f i)).set j v) (by simp [lst_len]) (World.ownsRow.stored hV.own j _).2 hV.own.set
  refine hb.fn fun t ht => ?_
  by_cases e : t = i
  · subst e
    rw [upd_at, lst_set hj]
    refine lst_congr fun k hk => ?_
    unfold updM
    simp
  · rw [upd_ne _ _ e]
    refine lst_congr fun k hk => ?_
    unfold updM
    rw [if_neg (fun h => e h.1)]
theorem vec_cell (h : Vec w lo hi A n c g) (hj : j < n) : ∃ b, A = some ⟨b, 0, none⟩ ∧ w.cell? ⟨b, j, none⟩ = some (.int .i64 (g j)) ∧ w.frozen? ⟨b, j, none⟩ = false ∧ lo ≤ b ∧ b < hi ∧ b < w.heap.size ∧ ∀ v, Vec (w.setCell ⟨b, j, none⟩ (.int .i64 v)) lo hi A n c (fun k => if k = j then v else g k) := by
  obtain ⟨b, rfl, h6, h7, h8, h9⟩ := h.own.at_ hj
  rw [lst_get hj] at h8
  refine ⟨b, rfl, h8, h9, h6, h.top b rfl, h7, fun v => ?_⟩
  have := h.own.set (k := j) (x := v)
  rw [lst_set hj] at this
  exact ⟨this, h.top, h.small⟩
theorem vec_fn {g' : Nat → Int} (h : Vec w lo hi A n c g) (he : ∀ j, j < n → g' j = g j) : Vec w lo hi A n c g' := by
  have e : lst n g' = lst n g := lst_congr he
  show OwnI w lo hi A n c (lst n g')
  rw [e]; exact h
/-- A shape. -/
theorem matR_of (h : IntsS w A n L) (hs : ∀ i, i < n → (L i).length = m) : MatR w A n m (fun i j => (L i)[j]?.getD 0) := IntsS.fn h fun i hi => by
  have := lst_of (L i)
  rw [hs i hi] at this
  exact this
end
/-- Sums. -/
theorem sm_succ (n : Nat) (f : Nat → Int) : sm (n + 1) f = sm n f + f n := rfl
theorem sm_bd {n : Nat} {f : Nat → Int} {b : Int} (h : ∀ k, k < n → 0 ≤ f k ∧ f k ≤ b) : 0 ≤ sm n f ∧ sm n f ≤ n * b := by
  induction n with
  | zero => simp [sm]
  | succ n ih =>
    have h1 := ih (fun k hk => h k (by omega))
    have h2 := h n (by omega)
    rw [sm_succ]
    have e : ((n + 1 : Nat) : Int) * b = (n : Int) * b + b := by rw [Int.natCast_add, Int.add_mul]; simp
    omega
end

section
open Go.RowKit

theorem row_ge {w : World} {B n c sz : Nat} {T : TypeId} {A : Option Addr} {ys : List Value} (h : w.ownsRow B T sz (.slice A n c) n ys) : ∀ k, rowOf A = some k → B ≤ k ∧ k < w.heap.size := fun k hk =>
  World.ownsRow.lt h k (by rw [ownBlock_row]; exact hk)
theorem row_mono {w : World} {n : Nat} {lo : Nat} {T : TypeId} {sz : Nat} {v : Value} {ys : List Value} {lo' : Nat} (h : w.ownsRow lo T sz v n ys) (hl : lo' ≤ lo) : w.ownsRow lo' T sz v n ys := ⟨h.1, by
  rcases h.2 with h0 | ⟨g, cap, cur, hv, hb, hr⟩
  · exact .inl h0
  · exact .inr ⟨g, cap, cur, hv, by omega, hr⟩⟩
end

section
open Go.RowKit Flo

theorem Sub.snoc {w wa w' : World} {lo n c : Nat} {A : Option Addr} {ys : List Value} {R : List (List Int)} {r : List Int} {g rn rc : Nat} (h : Sub w lo w.heap.size ys 1 0 (fun t => R[t]?.getD []) 0 n) (hl : ys.length = n) (hR : R.length = n) (hb : Below w.heap.size w wa) (ho : Own wa lo (some ⟨g, 0, none⟩) rn rc r) (hrn : r.length = rn) (hrs : rn ≤ 1099511627776) (hgn : w.heap.size ≤ g)
    (hrow : wa.ownsRow lo 24 1 (.slice A n c) n ys) (hg : wa.grownBy w' (rowOf A)) : Sub w' lo w'.heap.size (ys ++ [.slice (some ⟨g, 0, none⟩) rn rc]) 1 0 (fun t => (R ++ [r])[t]?.getD []) 0 (n + 1) := by
  subst hrn
  have e1 : ∀ t : Nat, t * 1 + 0 = t := fun t => by omega
  have hne : ∀ {V : Option Addr} {m d : Nat} {xs : List Int}, Own wa lo V m d xs → ∀ b, V = some ⟨b, 0, none⟩ → rowOf A ≠ some b := fun {V m d xs} hV b hVb hAb => by
    rcases A with _ | a
    · cases hAb
    · simp only [rowOf, Option.some.injEq] at hAb
      rcases hrow.2 with ⟨h0, _⟩ | ⟨g', cap, cur, hv, _, hgh, _⟩
      · cases h0
      · injection hv with hv
        injection hv with hv
        subst hv
        subst hAb
        exact own_box_ne hV hgh (by decide) (by rw [hVb]; rfl)
  have hold : ∀ j, j < n → ∀ b, (ys[j]?).bind Value.ownBlock = some b → b < w.heap.size := fun j hj b hbj => by
    obtain ⟨V3, c3, e3, ho3⟩ := h.row j (by omega) hj
    rw [e1] at e3
    rw [e3] at hbj
    exact (ho3.own.row_ge b (by simpa [ownBlock_rowOf] using hbj)).2
  have hy : ∀ j, j < n → (ys ++ [.slice (some ⟨g, 0, none⟩) r.length rc])[j]? = ys[j]? := fun j hj => List.getElem?_append_left (by omega)
  have hyn : (ys ++ [.slice (some ⟨g, 0, none⟩) r.length rc])[n]? = some (.slice (some ⟨g, 0, none⟩) r.length rc) := by
    rw [List.getElem?_append_right (by omega), hl, Nat.sub_self]; rfl
  refine ⟨fun j h1 h2 => ?_, fun i j b h1 h2 h3 hi hj => ?_⟩
  · rw [e1]
    rcases Nat.lt_or_ge j n with hj | hj
    · obtain ⟨V3, c3, e3, ho3⟩ := h.row j h1 hj
      rw [e1] at e3
      have eL : (R ++ [r])[j]?.getD [] = R[j]?.getD [] := by rw [List.getElem?_append_left (by omega)]
      rw [hy j hj]
      rw [eL]
      exact ⟨V3, c3, e3, OwnI.of_own ((ho3.own.below hb).far hg (fun b hA e => hne (ho3.own.below hb) b hA e)) ho3.small⟩
    · obtain rfl : j = n := by omega
      have eL : (R ++ [r])[j]?.getD [] = r := by rw [List.getElem?_append_right (by omega), hR, Nat.sub_self]; rfl
      rw [hyn]
      rw [eL]
      exact ⟨_, rc, rfl, OwnI.of_own (ho.far hg (fun b hA e => hne ho b hA e)) hrs⟩
  · rw [e1] at hi hj
    rcases Nat.lt_or_ge j n with hjn | hjn
    · rw [hy i (by omega)] at hi
      rw [hy j hjn] at hj
      exact h.apart i j b h1 h2 hjn (by rw [e1]; exact hi) (by rw [e1]; exact hj)
    · obtain rfl : j = n := by omega
      rw [hy i (by omega)] at hi
      rw [hyn] at hj
      have hb1 := hold i (by omega) b hi
      simp only [Option.bind_some, Value.ownBlock, Option.some.injEq] at hj
      omega

/-- 'append(s, r)' of one row: r's slice lies in a new block of its own. -/
theorem wp_appII1 {wr : World} {v : Value} {ops : Array Oper} {rest : List Oper} {o : Oper} {a : Act} {Q : Exit → Act → World → Prop} (hgd : o.guard = none) (s x : Operand)
    (ho : o.op = .call { callee := .builtin .append, args := #[s, x], argTypes := #[22, 22] })
    (B : Nat) (A : Option Addr) (n c : Nat) (ys : List Value) (hs : a.eval s = .slice A n c) (hown : wr.ownsRow B 24 1 (.slice A n c) n ys)
    (g : Nat) (hx : a.eval x = .slice (some ⟨g, 0, none⟩) 1 1) (hg : g = wr.heap.size) (hv : v.oneCell' = true) (hsz : n + 1 ≤ 1099511627776) (hB : B ≤ wr.heap.size)
    (h : ∀ A2 c2 w', w'.ownsRow B 24 1 (.slice A2 (n + 1) c2) (n + 1) (ys ++ [v]) → (wr.alloc (.cells #[v] 24)).grownBy w' (rowOf A) → wpList Try.prog ops Q rest (a.put o.dst (.slice A2 (n + 1) c2)) w') :
    wpList Try.prog ops Q (o :: rest) a (wr.alloc (.cells #[v] 24)) := by
  obtain ⟨i0, hi, hz0, hz1, hz2⟩ := info_parts Try.infoIntS
  subst hg
  refine wpList_append_own_at _ hgd s x 22 ho B 24 i0 _ 1 24 Try.underlying22 hi hz0 hz1 hz2 rfl (by omega) (.slice A n c) n ys hs (hown.alloc _) ⟨wr.heap.size, 0, none⟩ 1 1 [v] hx rfl ?_ ?_
      (by unfold maxLen; omega) (by omega) (by simp; omega) ?_
  · intro j u hu
    have hb := box_new wr #[v] 24
    rw [addr_add0]
    match j with
    | 0 => simp at hu; subst hu; exact box_cell hb 0 _ rfl
    | j + 1 => simp at hu
  · intro u hu
    simp at hu
    subst hu
    exact hv
  · intro v' w' h1 h2 h3 h4
    rw [ownBlock_row] at h2
    have hv : ∃ A2 c2, v' = .slice A2 (n + 1) c2 := by
      rcases h1.2 with ⟨hv, h0⟩ | ⟨g, cap, cur, hv, _⟩
      · rw [h0]; exact ⟨none, 0, hv⟩
      · exact ⟨_, cap, hv⟩
    obtain ⟨A2, c2, rfl⟩ := hv
    exact h A2 c2 w' h1 h2

/-- One more row, in a block of its own, behind the others. -/
theorem ll_snoc {w w6 : World} {lo c c6 rn : Nat} {D D6 : Option Addr} {R : List (List Int)} {r : List Int} {ys : List Value} {o : Obj} (ho : w.ownsRow lo 24 1 (.slice D R.length c) R.length ys) (hs : Sub w lo w.heap.size ys 1 0 (fun t => R[t]?.getD []) 0 R.length) (hlo : lo ≤ w.heap.size) (hr : rn = r.length) (hrn : rn ≤ 1000) (hR : R.length ≤ 1000)
    (hown : w6.ownsRow lo 24 1 (.slice D6 (R.length + 1) c6) (R.length + 1) (ys ++ [.slice (some ⟨w.heap.size, 0, none⟩) rn rn])) (hg : ((w.alloc (.cells (r.map (Value.int .i64)).toArray 3)).alloc o).grownBy w6 (rowOf D)) :
    OwnII w6 lo w6.heap.size D6 (R ++ [r]).length c6 (fun t => (R ++ [r])[t]?.getD []) := by
  have bA := below_new w (.cells (r.map (Value.int .i64)).toArray 3)
  have oA := (own_new w r rn hr (by omega)).mono hlo
  have hS := hs.snoc (r := r) (rc := rn) (rn := rn) (by have := ho.1; omega) rfl (bA.alloc bA.size o) (oA.below (below_new _ o)) hr.symm (by omega) (Nat.le_refl _) (row_below (row_below ho bA) (below_new _ o)) hg
  rw [List.length_append]
  exact ⟨⟨_, hown, hS⟩, fun q hq => (row_ge hown q hq).2, by show R.length + 1 ≤ _; omega⟩

set_option maxRecDepth 100000 in
set_option maxHeartbeats 4000000 in
theorem l1Own_any (A : Option Addr) (n c : Nat) (xs : List Int) (w : World) (hx : Ints w A n xs) (hn : n ≤ 1000000) :
    Calls Try.prog 82 #[.slice A n c] w fun e w' => ∃ A' c', e = .returned (.slice A' n c') ∧ OwnI w' w.heap.size w'.heap.size A' n c' xs ∧ Below w.heap.size w w' := by
  have b0 := below_new w (.cells #[] 3)
  have o0 := own_new w [] 0 rfl (by omega)
  have hx0 := hx.below b0
  have z0 := b0.size
  clear hx
  go_enter Try.func82, Try.ntmps82
  go_wp2_with (at_builtin; refine wp_app rfl _ _ rfl w.heap.size (some ⟨w.heap.size, 0, none⟩) 0 0 [] rfl o0 A n c xs rfl hx0 (by omega) z0 ?_; intro A2 c2 w2 hown hg _)
  simp only [Nat.zero_add, List.nil_append] at hown ⊢
  have B2 := Lib.hid (below_write b0 hg z0 (fun k hk => by simp [rowOf] at hk; omega))
  have O2 := Lib.hid (OwnI.of_own hown (by omega))
  clear b0 o0 hx0 hown hg
  go_wp2
  go_ret
  exact ⟨A2, c2, rfl, O2.out, B2.out⟩

set_option maxRecDepth 100000 in
set_option maxHeartbeats 4000000 in
theorem cloneM_any (A : Option Addr) (n c : Nat) (xs : List Int) (w : World) (hx : Ints w A n xs) (hn : n ≤ 1099511627776) :
    Calls Try.prog 98 #[.slice A n c] w fun e w' => ∃ A' c', e = .returned (.slice A' n c') ∧ OwnI w' w.heap.size w'.heap.size A' n c' xs ∧ Below w.heap.size w w' := by
  have q22 : ∀ (w : World) (a : Option Addr) (n c n' c' : Nat), (binOp .eql 24 (.slice a n c) (.slice none n' c')).run Try.prog w = .ok (.bool a.isNone) w := fun w a n c n' c' => Lib.run_eql_slice_nil w _ _ a n c n' c' Try.underlying24
  rcases A with _ | ad
  · have h0 : n = 0 := by
      rcases Nat.eq_zero_or_pos n with h0 | h0
      · exact h0
      · obtain ⟨_, e, _⟩ := Ints.at_ hx h0; cases e
    subst h0
    obtain rfl : xs = [] := List.eq_nil_of_length_eq_zero hx.1
    clear hx
    go_enter Try.func98, Try.ntmps98
    go_wp2
    go_ret
    exact ⟨none, 0, rfl, ⟨Own.nil_, (fun k hk => by cases hk), by omega⟩, Below.refl _ _⟩
  · have b0 := below_new w (.cells #[] 3)
    have o0 := own_new w [] 0 rfl (by omega)
    have hx0 := Ints.below hx b0
    have z0 := b0.size
    clear hx
    go_enter Try.func98, Try.ntmps98
    go_wp2_with (at_builtin; refine wp_app rfl _ _ rfl w.heap.size (some ⟨w.heap.size, 0, none⟩) 0 0 [] rfl o0 (some ad) n c xs rfl hx0 (by omega) z0 ?_; intro A2 c2 w2 hown hg _)
    simp only [Nat.zero_add, List.nil_append] at hown ⊢
    have B2 := Lib.hid (below_write b0 hg z0 (fun k hk => by simp [rowOf] at hk; omega))
    have O2 := Lib.hid (OwnI.of_own hown (by omega))
    clear b0 o0 hx0 hown hg q22
    go_wp2
    go_ret
    exact ⟨A2, c2, rfl, O2.out, B2.out⟩

set_option maxRecDepth 100000 in
set_option maxHeartbeats 800000 in
theorem copyMatrix_any (A : Option Addr) (n c : Nat) (L : Nat → List Int) (w : World) (hx : IntsS w A n L) (hn : n ≤ 1099511627776) (hs : ∀ j, j < n → (L j).length ≤ 1099511627776) :
    Calls Try.prog 79 #[.slice A n c] w fun e w' => ∃ A' c', e = .returned (.slice A' n c') ∧ OwnII w' w.heap.size w'.heap.size A' n c' L ∧ Below w.heap.size w w' := by
  obtain ⟨i0, hi, hz0, hz1, hz2⟩ := info_parts Try.infoIntS
  go_enter Try.func79, Try.ntmps79
  go_wp2_with (at_make; refine wpList_make_full _ rfl _ _ 22 rfl w.heap.size 24 i0 _ 1 Try.underlying22 hi hz0 hz1 .i64 .i64 _ _ n rfl rfl rfl rfl (by rw [hz2]; omega) (by unfold maxLen; omega) (Nat.le_refl _) ?_; intro w1 hown hg)
  have hA : ∀ t, 0 ≤ t → t < n → (madeCells (Value.slice none 0 0).cells (n * 1)).toList[t]? = some (.slice none 0 0) := fun t _ ht => by have h := madeRows n t ht; simp only [Nat.mul_one, Nat.add_zero] at h ⊢; exact h
  have hS : Sub w1 w.heap.size w1.heap.size (madeCells (Value.slice none 0 0).cells (n * 1)).toList 1 0 (upTo L 0) 0 n := Sub.nils (fun j hj => madeRows n j hj) (fun j _ => by simp [upTo])
  generalize (madeCells (Value.slice none 0 0).cells (n * 1)).toList = y0 at *
  have hb1 : Below w.heap.size w w1 := (Below.refl _ _).grown hg (Nat.le_refl _) (by simp)
  have HA := Lib.hid hA
  clear hg hi hz0 hz1 hz2 hA
  go_loopw [11] (fun i wr => ∃ (k : Nat) (ys : List Value), k ≤ n ∧ i = .int .i64 k ∧ Hid (∀ t, k ≤ t → t < n → ys[t]? = some (.slice none 0 0)) ∧ wr.ownsRow w.heap.size 24 1 (.slice (some ⟨w.heap.size, 0, none⟩) n n) n ys ∧ Sub wr w.heap.size wr.heap.size ys 1 0 (upTo L k) 0 n ∧ Below w.heap.size w wr) (fun i _ => n - (intOf i).toNat)
  case atStart => exact ⟨0, _, Nat.zero_le _, rfl, HA, hown, hS, hb1⟩
  case round =>
    clear HA hown hb1 hS
    obtain ⟨k, ys, hk, rfl, hag, hown, hsub, hbw⟩ := hrel
    by_cases hlt : k < n
    · obtain ⟨ad, rfl, V, cc, hc, hv⟩ := (hx.below hbw).at_ hlt
      have hm := hs k hlt
      have R1 := Lib.hid (fun w2 V2 c2 (hb : Below wr.heap.size wr w2) => rowsTo_step (V2n := (L k).length) (c2 := c2) (V2 := V2) hag.out hown hsub hbw.size hlt hb rfl)
      have HO := Lib.hid hown
      have HB := Lib.hid hbw
      have HV := Lib.hid hv
      clear hx hag hown hbw hsub hv hs
      generalize (L k).length = m at *
      go_wp2_with (go_at_call 98; refine (cloneM_any V m cc (L k) _ HV.out hm).mono ?_; rintro e w2 ⟨V2, c2, rfl, o2, hb2⟩; obtain ⟨zs, r1, r2, r3⟩ := R1.out w2 V2 c2 hb2 o2; have R2 := Lib.hid r1; have R3 := Lib.hid r2; have R4 := Lib.hid r3; have R5 := Lib.hid (HB.out.trans (hb2.mono HB.out.size)); have R6 := Lib.hid (row_below HO.out hb2); obtain ⟨⟨u0, hu0⟩, hf0⟩ := row_one R6.out hlt; clear r1 r2 r3 o2 hb2)
      go_roundw
      case rel => exact ⟨k + 1, zs, by omega, by go_num, R2, R3.out, (R4.out.fit (Nat.le_refl _)), R5.out.setCell (Nat.le_refl _) _⟩
      case measure => simp [intOf]; omega
    · obtain rfl : k = n := by omega
      go_wp2
      go_ret
      refine ⟨_, _, rfl, ⟨⟨ys, hown, hsub.fn fun j _ hj => by simp [upTo, hj]⟩, fun g hg => (World.ownsRow.lt hown g (by simpa [rowOf, Value.ownBlock] using hg)).2, hn⟩, hbw⟩

/-- The first k rows as a list of lists. -/
def rwsL (m : Nat) (f : Nat → Nat → Int) (k : Nat) : List (List Int) := (List.range k).map fun i => lst m (f i)
theorem rwsL_len (m : Nat) (f : Nat → Nat → Int) (k : Nat) : (rwsL m f k).length = k := by simp [rwsL]
theorem rwsL_at {m : Nat} {f : Nat → Nat → Int} {k t : Nat} (h : t < k) : (rwsL m f k)[t]?.getD [] = lst m (f t) := by simp [rwsL, h]
theorem rwsL_snoc (m : Nat) (f : Nat → Nat → Int) (k : Nat) : rwsL m f k ++ [lst m (f k)] = rwsL m f (k + 1) := by
  unfold rwsL
  rw [List.range_succ, List.map_append]; rfl
/-- One more row, of the call's own, behind the others. -/
theorem mat_snoc {w wa w6 : World} {lo k cD c6 m g rc : Nat} {D D6 : Option Addr} {f : Nat → Nat → Int} {ys : List Value} {o : Obj} (ho : w.ownsRow lo 24 1 (.slice D k cD) k ys) (hs : Sub w lo w.heap.size ys 1 0 (fun i => lst m (f i)) 0 k) (hlo : lo ≤ w.heap.size) (hk : k ≤ 1000) (hb : Below w.heap.size w wa) (hr : Own wa w.heap.size (some ⟨g, 0, none⟩) m rc (lst m (f k))) (hm : m ≤ 1000)
    (hown : w6.ownsRow lo 24 1 (.slice D6 (k + 1) c6) (k + 1) (ys ++ [.slice (some ⟨g, 0, none⟩) m rc])) (hg : (wa.alloc o).grownBy w6 (rowOf D)) : Mat w6 lo w6.heap.size D6 (k + 1) c6 m f := by
  have hgw := (hr.row_ge g rfl).1
  have hs1 : Sub w lo w.heap.size ys 1 0 (fun t => (rwsL m f k)[t]?.getD []) 0 k := hs.fn fun j _ hj => rwsL_at hj
  have h1 := hs1.snoc (r := lst m (f k)) (rc := rc) (rn := m) (by have := ho.1; omega) (rwsL_len _ _ _) (hb.trans ((below_new wa o).mono hb.size)) ((hr.mono hlo).below (below_new wa o)) (lst_len _ _) (by omega) hgw (row_below (row_below ho hb) (below_new wa o)) hg
  refine ⟨⟨_, hown, h1.fn fun j _ hj => ?_⟩, fun q hq => (row_ge hown q hq).2, by omega⟩
  rw [rwsL_snoc, rwsL_at hj]
theorem mat_nil {w : World} {lo hi m : Nat} {f : Nat → Nat → Int} : Mat w lo hi none 0 0 m f := OwnII.nil_
end
end Go.Proofs.Ytcjmapdeopffcaa
