/- Rows of records of the call's own, copies of records by the program: the parts of the servers' texts that name no table; put together by gxr.py. -/
import Derived.Test.YtahbcnclhohnaaaGreatYc
import Derived.Test.YtahbcnclhohnaaaGreatAppG
import Derived.Test.YtahbcnclhohnaaaGreatZe
import Derived.Deep.RegionLaw
namespace Go.Proofs.YtahbcnclhohnaaaGreat
open Go.RowKit

theorem own_ne {w : World} {B m d k : Nat} {V : Option Addr} {xs : List Int} {cs : Array Value} {T : TypeId} (h : Own w B V m d xs) (hk : w.heap[k]? = some (.cells cs T (0, 0))) (hT : T ≠ 3) : rowOf V ≠ some k := by
  intro e
  rcases h.2 with ⟨h0, _⟩ | ⟨g', cap, cur, hv, _, hg, _⟩
  · injection h0 with h0; subst h0; cases e
  · injection hv with hv
    subst hv
    simp only [rowOf, Option.some.injEq] at e
    subst e
    rw [hg] at hk
    injection hk with hk
    injection hk with _ ht
    exact absurd ht.symm hT
/-- Stores into one block. -/
def puts (w : World) (g : Nat) (l : List (Nat × Value)) : World := l.foldl (fun u p => u.setCell ⟨g, p.1, none⟩ p.2) w
theorem puts_ne {g h : Nat} : ∀ (l : List (Nat × Value)) (w : World), h ≠ g → (puts w g l).heap[h]? = w.heap[h]? := by
  intro l
  induction l with
  | nil => intro w _; rfl
  | cons p l ih => intro w hne; exact (ih (w.setCell ⟨g, p.1, none⟩ p.2) hne).trans (Below.heap_setCell w ⟨g, p.1, none⟩ p.2 h hne)
theorem puts_below {w0 : World} {B g : Nat} : ∀ (l : List (Nat × Value)) (w : World), Below B w0 w → B ≤ g → Below B w0 (puts w g l) := by
  intro l
  induction l with
  | nil => intro w h _; exact h
  | cons p l ih => intro w h hg; exact ih (w.setCell ⟨g, p.1, none⟩ p.2) (h.setCell (by exact hg) _) hg
theorem puts_size {g : Nat} : ∀ (l : List (Nat × Value)) (w : World), (puts w g l).heap.size = w.heap.size := by
  intro l
  induction l with
  | nil => intro w; rfl
  | cons p l ih => intro w; exact (ih (w.setCell ⟨g, p.1, none⟩ p.2)).trans (by simp)
section
variable {w w' : World} {A : Option Addr} {n c lo : Nat}
theorem OwnI.belT {V : Option Addr} {m cv : Nat} {xs : List Int} (h : OwnI w lo w.heap.size V m cv xs) (hb : Below w.heap.size w w') : OwnI w' lo w'.heap.size V m cv xs :=
  ⟨(h.below hb).own, fun k hk => Nat.lt_of_lt_of_le (h.top k hk) hb.size, h.small⟩
end
section
variable {w w' : World} {A : Option Addr} {n c lo b : Nat} {cs : Array Value} {T : TypeId}
theorem OwnI.off {V : Option Addr} {m cv : Nat} {xs : List Int} (h : OwnI w lo w.heap.size V m cv xs) (hb : w.heap[b]? = some (.cells cs T (0, 0))) (hT : T ≠ 3) (hw : ∀ k, k ≠ b → w'.heap[k]? = w.heap[k]?) (hz : w'.heap.size = w.heap.size) : OwnI w' lo w'.heap.size V m cv xs :=
  ⟨h.own.keep fun g hA _ => hw g (fun e => own_ne h.own hb hT (by rw [hA, e]; rfl)), fun k hk => by rw [hz]; exact h.top k hk, h.small⟩
end
section
variable {w w' : World} {A E : Option Addr} {n c lo lo2 sz b e ce : Nat} {ys zs : List Value} {T0 T1 T : TypeId} {cs : Array Value}
theorem row_ne_box (ho : w.ownsRow lo T0 sz (.slice A n c) n ys) (hk : w.heap[b]? = some (.cells cs T (0, 0))) (hT : T ≠ T0) : rowOf A ≠ some b := by
  intro e
  rcases ho.2 with ⟨h0, _⟩ | ⟨g', cap, cur, hv, _, hg, _⟩
  · injection h0 with h0; subst h0; cases e
  · injection hv with hv
    subst hv
    simp only [rowOf, Option.some.injEq] at e
    subst e
    rw [hg] at hk
    injection hk with hk
    injection hk with _ ht
    exact hT ht.symm
end
/-- A row of records of the call's own; the rows in them are of its own too, and may be shared. -/
structure DRc (w : World) (lo : Nat) (A : Option Addr) (n c : Nat) (rs : List RecD) : Prop where
  len : rs.length = n
  cells : ∃ ys, w.ownsRow lo 79 3 (.slice A n c) n ys ∧ ∀ j, j < n → ∃ (V : Option Addr) (m cv : Nat), ys[j * 3]? = some (.int .i64 (rA rs j)) ∧ ys[j * 3 + 1]? = some (.int .i64 (rH rs j)) ∧ ys[j * 3 + 2]? = some (.slice V m cv) ∧ OwnI w lo w.heap.size V m cv (rV rs j)
section
variable {w w' : World} {A : Option Addr} {n c lo : Nat} {rs : List RecD}
theorem DRc.nil_ {w : World} {lo : Nat} : DRc w lo none 0 0 [] := ⟨rfl, [], World.ownsRow_nil _ _ _ _, fun j hj => absurd hj (by omega)⟩
theorem DRc.below (h : DRc w lo A n c rs) (hb : Below w.heap.size w w') : DRc w' lo A n c rs := by
  obtain ⟨ys, h1, h2⟩ := h.cells
  refine ⟨h.len, ys, row_below h1 hb, fun j hj => ?_⟩
  obtain ⟨V, m, cv, e0, e1, e2, hv⟩ := h2 j hj
  exact ⟨V, m, cv, e0, e1, e2, hv.belT hb⟩
theorem DRc.mono {lo' : Nat} (h : DRc w lo A n c rs) (hl : lo' ≤ lo) : DRc w lo' A n c rs := by
  obtain ⟨ys, h1, h2⟩ := h.cells
  refine ⟨h.len, ys, row_mono h1 hl, fun j hj => ?_⟩
  obtain ⟨V, m, cv, e0, e1, e2, hv⟩ := h2 j hj
  exact ⟨V, m, cv, e0, e1, e2, hv.own.mono hl, hv.top, hv.small⟩
theorem DRc.rows (h : DRc w lo A n c rs) : ∃ ys, w.ownsRow lo 79 3 (.slice A n c) n ys := by
  obtain ⟨ys, h1, _⟩ := h.cells
  exact ⟨ys, h1⟩
theorem DRc.ne_box {k : Nat} {cs : Array Value} {T : TypeId} (h : DRc w lo A n c rs) (hk : w.heap[k]? = some (.cells cs T (0, 0))) (hT : T ≠ 79) : rowOf A ≠ some k := by
  obtain ⟨ys, ho, _⟩ := h.cells
  exact row_ne_box ho hk hT
/-- A row of records is kept by stores into a box. -/
theorem DRc.off {b : Nat} {cs : Array Value} {T : TypeId} (h : DRc w lo A n c rs) (hb : w.heap[b]? = some (.cells cs T (0, 0))) (hT : T ≠ 3) (hT2 : T ≠ 79) (hw : ∀ k, k ≠ b → w'.heap[k]? = w.heap[k]?) (hz : w'.heap.size = w.heap.size) : DRc w' lo A n c rs := by
  have hne := h.ne_box hb hT2
  obtain ⟨ys, ho, h2⟩ := h.cells
  refine ⟨h.len, ys, row_keep ho fun k _ hA _ => hw k (fun e => hne (by rw [hA, e])), fun j hj => ?_⟩
  obtain ⟨V, m, cv, e0, e1, e2, hv⟩ := h2 j hj
  exact ⟨V, m, cv, e0, e1, e2, hv.off hb hT hw hz⟩
theorem DRc.recs (h : DRc w lo A n c rs) (hn : n ≤ 1099511627776) : DatR w A n rs := by
  obtain ⟨ys, ho, h2⟩ := h.cells
  refine ⟨⟨h.len, fun hn0 => ?_⟩, fun j hj => ?_, hn⟩
  · obtain ⟨g, rfl, _, _⟩ := row_head ho hn0
    have hl := ho.1
    refine ⟨_, rfl, fun j hj => ?_⟩
    obtain ⟨V, m, cv, e0, e1, e2, hv⟩ := h2 j hj
    rw [addr_add0]
    exact ⟨(World.ownsRow.cellAt ho (j * 3) (by omega)).trans e0, (World.ownsRow.cellAt ho (j * 3 + 1) (by omega)).trans e1, V, m, cv, (World.ownsRow.cellAt ho (j * 3 + 2) (by omega)).trans e2, hv.ints⟩
  · obtain ⟨V, m, cv, e0, e1, e2, hv⟩ := h2 j hj
    rw [hv.own.len]; exact hv.small
theorem set3 {ys : List Value} {j p : Nat} {a b d : Value} (hl : j * 3 + 3 ≤ ys.length) (hp : p < 3) : (((ys.set (j * 3) a).set (j * 3 + 1) b).set (j * 3 + 2) d)[j * 3 + p]? = some (if p = 0 then a else if p = 1 then b else d) := by
  rcases (by omega : p = 0 ∨ p = 1 ∨ p = 2) with rfl | rfl | rfl
  · rw [List.getElem?_set_ne (by omega), List.getElem?_set_ne (by omega), Nat.add_zero, List.getElem?_set_self (by omega)]; rfl
  · rw [List.getElem?_set_ne (by omega), List.getElem?_set_self (by simp; omega)]; rfl
  · rw [List.getElem?_set_self (by simp; omega)]; rfl
theorem set3n {ys : List Value} {i j p : Nat} {a b d : Value} (hp : p < 3) (h : i ≠ j) : (((ys.set (j * 3) a).set (j * 3 + 1) b).set (j * 3 + 2) d)[i * 3 + p]? = ys[i * 3 + p]? := by
  rw [List.getElem?_set_ne (by omega), List.getElem?_set_ne (by omega), List.getElem?_set_ne (by omega)]
theorem OwnI.farRow {T : TypeId} {sz g : Nat} {ys : List Value} {V : Option Addr} {m cv : Nat} {xs : List Int} (h : OwnI w lo w.heap.size V m cv xs) (ho : w.ownsRow lo T sz (.slice (some ⟨g, 0, none⟩) n c) n ys) (hT : T ≠ 3) (hg : w.grownBy w' (some g)) : OwnI w' lo w'.heap.size V m cv xs :=
  OwnI.of_own (h.own.far (show w.grownBy w' (rowOf (some ⟨g, 0, none⟩)) from hg) fun q hA e => row_ne2 h.own ho hT (by rw [hA]; rfl) e) h.small
theorem rX_put {r : RecD} {i j : Nat} (hj : j < rs.length) : rX (rs.set j r) i = if i = j then r else rX rs i := by
  unfold rX
  by_cases h : i = j
  · subst h; rw [if_pos rfl, List.getElem?_set_self hj]; rfl
  · rw [if_neg h, List.getElem?_set_ne (fun e => h e.symm)]
/-- A record stored. -/
theorem DRc.put {g j m cv : Nat} {V : Option Addr} {r : RecD} (h : DRc w lo (some ⟨g, 0, none⟩) n c rs) (hj : j < n) (hv : OwnI w lo w.heap.size V m cv r.vals) :
    DRc (((w.setCell ⟨g, j * 3, none⟩ (.int .i64 r.area)).setCell ⟨g, j * 3 + 1, none⟩ (.int .i64 r.house)).setCell ⟨g, j * 3 + 2, none⟩ (.slice V m cv)) lo (some ⟨g, 0, none⟩) n c (rs.set j r) := by
  obtain ⟨ys, h0, h2⟩ := h.cells
  have hl := h0.1
  have hlen := h.len
  obtain ⟨h1, g1⟩ := World.ownsRow.stored h0 (j * 3) (.int .i64 r.area)
  obtain ⟨h1, g2⟩ := World.ownsRow.stored h1 (j * 3 + 1) (.int .i64 r.house)
  obtain ⟨h1, g3⟩ := World.ownsRow.stored h1 (j * 3 + 2) (.slice V m cv)
  have hg := (g1.trans g2).trans g3
  refine ⟨by simp [hlen], _, h1, fun i hi => ?_⟩
  unfold rA rH rV
  rw [rX_put (by omega)]
  by_cases e : i = j
  · subst e
    rw [if_pos rfl]
    exact ⟨V, m, cv, set3 (p := 0) (by omega) (by omega), set3 (p := 1) (by omega) (by omega), set3 (p := 2) (by omega) (by omega), hv.farRow h0 (by decide) hg⟩
  · rw [if_neg e]
    obtain ⟨V', m', cv', e0, e1, e2, hv'⟩ := h2 i hi
    exact ⟨V', m', cv', (set3n (p := 0) (by omega) e).trans e0, (set3n (p := 1) (by omega) e).trans e1, (set3n (p := 2) (by omega) e).trans e2, hv'.farRow h0 (by decide) hg⟩
theorem DRc.made (h : w.ownsRow lo 79 3 (.slice A n c) n (madeCells (Value.agg #[.int .i64 0, .int .i64 0, .slice none 0 0]).cells (n * 3)).toList) : DRc w lo A n c (List.replicate n rec0) := by
  refine ⟨by simp, _, h, fun j hj => ?_⟩
  have e : rX (List.replicate n rec0) j = rec0 := by unfold rX; rw [List.getElem?_replicate]; split <;> rfl
  have hz : (Value.agg #[.int .i64 0, .int .i64 0, .slice none 0 0]).cells = #[.int .i64 0, .int .i64 0, .slice none 0 0] := rfl
  unfold rA rH rV
  rw [e, hz]
  refine ⟨none, 0, 0, ?_, ?_, ?_, ⟨Own.nil_, (fun k hk => by cases hk), by omega⟩⟩
  · rw [made_at _ _ _ (by omega), show j * 3 % (#[Value.int .i64 0, .int .i64 0, .slice none 0 0] : Array Value).size = 0 by simp]; rfl
  · rw [made_at _ _ _ (by omega), show (j * 3 + 1) % (#[Value.int .i64 0, .int .i64 0, .slice none 0 0] : Array Value).size = 1 by simp]; rfl
  · rw [made_at _ _ _ (by omega), show (j * 3 + 2) % (#[Value.int .i64 0, .int .i64 0, .slice none 0 0] : Array Value).size = 2 by simp]; rfl
end
def padR (rs : List RecD) (n k : Nat) : List RecD := rs.take k ++ List.replicate (n - k) rec0
theorem padR_0 (rs : List RecD) (n : Nat) : padR rs n 0 = List.replicate n rec0 := by simp [padR]
theorem padR_n {rs : List RecD} {n : Nat} (h : rs.length = n) : padR rs n n = rs := by subst h; simp [padR]
theorem pad_set {α : Type} {l : List α} {d x : α} {n k : Nat} (hl : l.length = n) (hk : k < n) (hx : l[k]? = some x) : (l.take k ++ List.replicate (n - k) d).set k x = l.take (k + 1) ++ List.replicate (n - (k + 1)) d := by
  have h1 : (l.take k).length = k := by rw [List.length_take]; omega
  rw [List.set_append_right _ _ (by omega), h1, Nat.sub_self]
  obtain ⟨m, hm⟩ : ∃ m, n - k = m + 1 := ⟨n - k - 1, by omega⟩
  rw [hm, List.replicate_succ, List.set_cons_zero, List.take_add_one, hx, show n - (k + 1) = m by omega]
  simp
theorem padR_set {rs : List RecD} {n k : Nat} (hl : rs.length = n) (hk : k < n) : (padR rs n k).set k (rX rs k) = padR rs n (k + 1) := pad_set hl hk (by unfold rX; rw [List.getElem?_eq_getElem (by omega)]; rfl)
theorem below_put3 {w0 w : World} {B g k : Nat} {a b c : Value} (h : Below B w0 w) (hg : B ≤ g) : Below B w0 (((w.setCell ⟨g, k * 3, none⟩ a).setCell ⟨g, k * 3 + 1, none⟩ b).setCell ⟨g, k * 3 + 2, none⟩ c) := ((h.setCell (by exact hg) _).setCell (by exact hg) _).setCell (by exact hg) _
set_option maxRecDepth 100000 in
set_option maxHeartbeats 4000000 in
theorem cloneI_any (A : Option Addr) (n c : Nat) (xs : List Int) (w : World) (hx : IntR w A n xs) :
    Calls Tryz.prog 99 #[.slice A n c] w fun e w' => ∃ A' c', e = .returned (.slice A' n c') ∧ OwnI w' w.heap.size w'.heap.size A' n c' xs ∧ Below w.heap.size w w' := by
  have hn := hx.bd
  have q22 : ∀ (w : World) (a : Option Addr) (n c n' c' : Nat), (binOp .eql 26 (.slice a n c) (.slice none n' c')).run Tryz.prog w = .ok (.bool a.isNone) w := fun w a n c n' c' => Lib.run_eql_slice_nil w _ _ a n c n' c' Tryz.underlying26
  rcases A with _ | ad
  · have h0 : n = 0 := by
      rcases Nat.eq_zero_or_pos n with h0 | h0
      · exact h0
      · obtain ⟨_, e, _⟩ := hx.i.at_ h0; cases e
    subst h0
    obtain rfl : xs = [] := List.eq_nil_of_length_eq_zero hx.i.1
    clear hx
    go_enter Tryz.func99, Tryz.ntmps99
    go_wp2
    go_ret
    exact ⟨none, 0, rfl, ⟨Own.nil_, (fun k hk => by cases hk), by omega⟩, Below.refl _ _⟩
  · have b0 := below_new w (.cells #[] 3)
    have o0 := own_new w [] 0 rfl (by omega)
    have hx0 := hx.i.below b0
    have z0 := b0.size
    clear hx
    go_enter Tryz.func99, Tryz.ntmps99
    go_wp2_with (at_builtin; refine wp_app rfl _ _ rfl w.heap.size (some ⟨w.heap.size, 0, none⟩) 0 0 [] rfl o0 (some ad) n c xs rfl hx0 (by omega) z0 ?_; intro A2 c2 w2 hown hg _)
    simp only [Nat.zero_add, List.nil_append] at hown ⊢
    have B2 := Lib.hid (below_write b0 hg z0 (fun k hk => by simp [rowOf] at hk; omega))
    have O2 := Lib.hid (OwnI.of_own hown (by omega))
    clear b0 o0 hx0 hown hg q22
    go_wp2
    go_ret
    exact ⟨A2, c2, rfl, O2.out, B2.out⟩
set_option maxRecDepth 100000 in
set_option maxHeartbeats 4000000 in
theorem copyRecord_any (x y : Int) (V : Option Addr) (m d : Nat) (xs : List Int) (w : World) (hx : IntR w V m xs) :
    Calls Tryz.prog 70 #[.agg #[.int .i64 x, .int .i64 y, .slice V m d]] w fun e w' => ∃ (V' : Option Addr) (cv : Nat), e = .returned (.agg #[.int .i64 x, .int .i64 y, .slice V' m cv]) ∧ OwnI w' w.heap.size w'.heap.size V' m cv xs ∧ Below w.heap.size w w' := by
  obtain ⟨b0, x1, x2⟩ := box_two w #[.int .i64 x, .int .i64 y, .slice V m d] #[.int .i64 0, .int .i64 0, .slice none 0 0] 79 79
  have HS := Lib.hid (show ((w.alloc (.cells #[.int .i64 x, .int .i64 y, .slice V m d] 79)).alloc (.cells #[.int .i64 0, .int .i64 0, .slice none 0 0] 79)).heap.size = w.heap.size + 1 + 1 by simp)
  have HX := Lib.hid (hx.below b0)
  have X1 := Lib.hid x1
  have X2 := Lib.hid x2
  have HB := Lib.hid b0
  clear hx b0 x1 x2
  go_enter Tryz.func70, Tryz.ntmps70
  have l1 := lt_of_block X1.out
  have ap0 := box_cell X1.out 0 _ rfl
  have ag0 := box_free X1.out 0
  have ap1 := box_cell X1.out 1 _ rfl
  have ag1 := box_free X1.out 1
  have ap2 := box_cell X1.out 2 _ rfl
  have ag2 := box_free X1.out 2
  go_wp2_with fail
  clear l1 ap0 ap1 ap2 ag0 ag1 ag2
  generalize ((w.alloc (.cells #[.int .i64 x, .int .i64 y, .slice V m d] 79)).alloc (.cells #[.int .i64 0, .int .i64 0, .slice none 0 0] 79)) = w1 at *
  have hs1 : w.heap.size + 1 + 1 ≤ w1.heap.size := Nat.le_of_eq HS.out.symm
  refine (cloneI_any V m d xs _ HX.out).mono ?_
  rintro e9 w2 ⟨V', cv, rfl, oV, b2⟩
  have z2 := b2.size
  have X12 := Lib.hid (box_below X1.out b2)
  have X22 := Lib.hid (box_below X2.out b2)
  have HB2 := Lib.hid (HB.out.trans (b2.mono HB.out.size))
  have OV := Lib.hid (oV.fit (show w.heap.size ≤ w1.heap.size by omega))
  have OV4 : Hid (OwnI (w2.setCell ⟨w.heap.size, 2, none⟩ (.slice V' m cv)) w.heap.size ((w2.setCell ⟨w.heap.size, 2, none⟩ (.slice V' m cv))).heap.size V' m cv xs) := Lib.hid (OV.out.off X12.out (by decide) (fun j hj => puts_ne (g := w.heap.size) [(2, .slice V' m cv)] w2 hj) (puts_size (g := w.heap.size) [(2, .slice V' m cv)] w2))
  have X14 : Hid (((w2.setCell ⟨w.heap.size, 2, none⟩ (.slice V' m cv))).heap[w.heap.size]? = some (.cells #[.int .i64 x, .int .i64 y, .slice V' m cv] 79 (0, 0))) := Lib.hid (box_set X12.out 2 _)
  have X24 : Hid (((w2.setCell ⟨w.heap.size, 2, none⟩ (.slice V' m cv))).heap[w.heap.size + 1]? = some (.cells #[.int .i64 0, .int .i64 0, .slice none 0 0] 79 (0, 0))) := Lib.hid ((puts_ne (g := w.heap.size) [(2, .slice V' m cv)] w2 (by omega)).trans X22.out)
  have HB4 : Hid (Below w.heap.size w (w2.setCell ⟨w.heap.size, 2, none⟩ (.slice V' m cv))) := Lib.hid (puts_below (g := w.heap.size) [(2, .slice V' m cv)] w2 HB2.out (Nat.le_refl _))
  have l2 := lt_of_block X12.out
  have c2 := box_cell X12.out 2 _ rfl
  have f2 := box_free X12.out 2
  have i0 := box_cell X14.out 0 (.int .i64 x) rfl
  have i1 := box_cell X14.out 1 (.int .i64 y) rfl
  have i2 := box_cell X14.out 2 (.slice V' m cv) rfl
  have ep0 := box_cell X24.out 0 _ rfl
  have eg0 := box_free X24.out 0
  have ep1 := box_cell X24.out 1 _ rfl
  have eg1 := box_free X24.out 1
  have ep2 := box_cell X24.out 2 _ rfl
  have eg2 := box_free X24.out 2
  have l3 := lt_of_block X22.out
  have RX := Lib.hid (box_set (box_set (box_set X24.out 0 (.int .i64 x)) 1 (.int .i64 y)) 2 (.slice V' m cv))
  have r0 := box_cell RX.out 0 (.int .i64 x) rfl
  have r1 := box_cell RX.out 1 (.int .i64 y) rfl
  have r2 := box_cell RX.out 2 (.slice V' m cv) rfl
  have FV := Lib.hid (OV4.out.off X24.out (by decide) (fun j hj => puts_ne (g := w.heap.size + 1) [(0, .int .i64 x), (1, .int .i64 y), (2, .slice V' m cv)] (w2.setCell ⟨w.heap.size, 2, none⟩ (.slice V' m cv)) hj) (puts_size (g := w.heap.size + 1) [(0, .int .i64 x), (1, .int .i64 y), (2, .slice V' m cv)] (w2.setCell ⟨w.heap.size, 2, none⟩ (.slice V' m cv))))
  have FB := Lib.hid (puts_below (g := w.heap.size + 1) [(0, .int .i64 x), (1, .int .i64 y), (2, .slice V' m cv)] (w2.setCell ⟨w.heap.size, 2, none⟩ (.slice V' m cv)) HB4.out (by omega))
  clear oV b2 OV OV4 X12 X22 X14 X24 HB HB2 HB4 RX
  go_wp2
  exact bodyPost_ret (v := .agg #[.int .i64 x, .int .i64 y, .slice V' m cv]) (by simp [results, Tryz.results70, go_sem, r0, r1, r2]) rfl ⟨V', cv, rfl, FV.out, FB.out⟩

set_option maxRecDepth 100000 in
set_option maxHeartbeats 4000000 in
theorem copyRecords_any (A : Option Addr) (n c : Nat) (rs : List RecD) (w : World) (hA : DatR w A n rs) :
    Calls Tryz.prog 41 #[.slice A n c] w fun e w' => ∃ (A' : Option Addr) (c' : Nat), e = .returned (.slice A' n c') ∧ DRc w' w.heap.size A' n c' rs ∧ Below w.heap.size w w' := by
  obtain ⟨i0, hi, hz0, hz1, hz2⟩ := info_parts Tryz.infoRecord
  have HA := Lib.hid hA
  have hn := hA.bd
  clear hA
  go_enter Tryz.func41, Tryz.ntmps41
  go_wp2_with (at_make; refine wpList_make_full _ rfl _ _ 25 rfl w.heap.size 79 i0 _ 3 Tryz.underlying25 hi hz0 hz1 .i64 .i64 _ _ n rfl rfl rfl rfl (by rw [hz2]; omega) (by unfold maxLen; omega) (Nat.le_refl _) ?_; intro w1 hown hg)
  have D0 := DRc.made hown
  rw [← padR_0 rs n] at D0
  have hb1 : Below w.heap.size w w1 := (Below.refl _ _).grown hg (Nat.le_refl _) (by simp)
  clear hg hi hz0 hz1 hz2 hown
  go_loopw [11] (fun i wr => ∃ k : Nat, k ≤ n ∧ i = .int .i64 k ∧ DRc wr w.heap.size (some ⟨w.heap.size, 0, none⟩) n n (padR rs n k) ∧ Below w.heap.size w wr) (fun i _ => n - (intOf i).toNat)
  case atStart => exact ⟨0, Nat.zero_le _, rfl, D0, hb1⟩
  case round =>
    clear D0 hb1
    obtain ⟨k, hk, rfl, hD, hb⟩ := hrel
    have hz := hb.size
    by_cases hlt : k < n
    · obtain ⟨ad, rfl, u0, u1, V, m, d, u2, hu0⟩ := (HA.out.below hb).r.at_ hlt
      have hu : IntR wr V m (rV rs k) := ⟨hu0, by have h1 := HA.out.s k hlt; rw [hu0.1] at h1; exact h1⟩
      clear hu0
      have bk := below_new wr (.cells #[.int .i64 (rA rs k), .int .i64 (rH rs k), .slice V m d] 79)
      have XN := Lib.hid (box_new wr #[.int .i64 (rA rs k), .int .i64 (rH rs k), .slice V m d] 79)
      have HD := Lib.hid (hD.below bk)
      have HB := Lib.hid (hb.trans (bk.mono hz))
      have z1 := bk.size
      have HU := Lib.hid (hu.below bk)
      clear hD hb bk hu
      have n0 := box_cell XN.out 0 _ rfl
      have n1 := box_cell XN.out 1 _ rfl
      have n2 := box_cell XN.out 2 _ rfl
      have ln := lt_of_block XN.out
      go_wp2_with fail
      clear ln n0 u0 n1 u1 n2 u2
      generalize wr.alloc (.cells #[.int .i64 (rA rs k), .int .i64 (rH rs k), .slice V m d] 79) = w4 at *
      refine (copyRecord_any (rA rs k) (rH rs k) V m d (rV rs k) _ HU.out).mono ?_
      rintro e9 w5 ⟨V', cv, rfl, oV, b5⟩
      have z5 := b5.size
      have HD5 := Lib.hid (HD.out.below b5)
      have HB5 := Lib.hid (HB.out.trans (b5.mono HB.out.size))
      have OV := Lib.hid (oV.fit (show w.heap.size ≤ w4.heap.size by omega))
      clear oV
      obtain ⟨ys, hys⟩ := (show ∃ ys, w5.ownsRow w.heap.size 79 3 (.slice (some ⟨w.heap.size, 0, none⟩) n n) n ys from HD5.out.rows)
      obtain ⟨⟨v0, hv0⟩, ⟨v1, hv1⟩, ⟨v2, hv2⟩, hf0, hf1, hf2⟩ := row_three hys hlt
      have D6 := Lib.hid (HD5.out.put (r := rX rs k) hlt OV.out)
      rw [padR_set HA.out.len hlt] at D6
      clear b5 HD HB HD5 XN HU hys
      go_wp2
      go_roundw
      case rel => exact ⟨k + 1, by omega, by go_num, D6.out, below_put3 HB5.out (Nat.le_refl _)⟩
      case measure => simp [intOf]; omega
    · obtain rfl : k = n := by omega
      rw [padR_n HA.out.len] at hD
      have HD := Lib.hid hD
      have HB := Lib.hid hb
      clear hD hb
      go_wp2
      go_ret
      exact ⟨_, _, rfl, HD.out, HB.out⟩

end Go.Proofs.YtahbcnclhohnaaaGreat
