/- Several small texts in one: Vars, VarsT, VarsTo, VarsEq, RecT. -/
import Derived.Test.YtfanpbfmnckmnaaGreatZa
import Derived.Deep.RegionHeld3
namespace Go.Proofs.YtfanpbfmnckmnaaGreat

section
open Go.RowKit

def vN (vs : List (ByteArray × Int)) (j : Nat) : ByteArray := (vs[j]?.getD (⟨#[]⟩, 0)).1
def vL (vs : List (ByteArray × Int)) (j : Nat) : Int := (vs[j]?.getD (⟨#[]⟩, 0)).2
/-- A slice of variables that reads as a list. -/
def VarsR (w : World) (A : Option Addr) (n : Nat) (vs : List (ByteArray × Int)) : Prop :=
  vs.length = n ∧ (0 < n → ∃ ad, A = some ad ∧ ∀ j, j < n → w.cell? (ad.add (j * 2)) = some (.string (vN vs j)) ∧ w.cell? ⟨(ad.add (j * 2)).block, (ad.add (j * 2)).off + 1, none⟩ = some (.int .i64 (vL vs j)))

section
variable {w w' : World} {A : Option Addr} {n : Nat} {vs : List (ByteArray × Int)}
theorem VarsR.at_ {k : Nat} (h : VarsR w A n vs) (hk : k < n) : ∃ ad, A = some ad ∧ w.cell? (ad.add (k * 2)) = some (.string (vN vs k)) ∧ w.cell? ⟨(ad.add (k * 2)).block, (ad.add (k * 2)).off + 1, none⟩ = some (.int .i64 (vL vs k)) := by
  obtain ⟨ad, e, hc⟩ := h.2 (by omega)
  exact ⟨ad, e, hc k hk⟩
theorem VarsR.nil_ : VarsR w A 0 [] := ⟨rfl, fun h => absurd h (by omega)⟩
theorem VarsR.below (h : VarsR w A n vs) (hb : Below w.heap.size w w') : VarsR w' A n vs :=
  ⟨h.1, fun hn => by
    obtain ⟨ad, e, hc⟩ := h.2 hn
    exact ⟨ad, e, fun j hj => ⟨(hb.cell (block_lt_of_cell (hc j hj).1)).trans (hc j hj).1, (hb.cell (block_lt_of_cell (hc j hj).2)).trans (hc j hj).2⟩⟩⟩
theorem VarsR.drewN (h : VarsR w A n vs) (q : Nat) : VarsR (w.drewN q) A n vs := h
end

/-- What is left of a room behind a name. -/
def szv (s : ByteArray) (k : Int) : Int := if k - s.size < 0 then -1 else k - s.size

set_option maxHeartbeats 400000 in
theorem szVariable_any (s : ByteArray) (x k : Int) (w : World) (hs : s.size ≤ 9223372036854775807) (h0 : 0 ≤ k) (h1 : k ≤ 1099511627776) :
    Calls Tryz.prog 104 #[.agg #[.string s, .int .i64 x], .int .i64 k] w fun e w' => e = .returned (.int .i64 (szv s k)) ∧ Below w.heap.size w w' := by
  go_enter Tryz.func104, Tryz.ntmps104
  by_cases hlt : k - s.size < 0
  · have R := Lib.hid (show (-1 : Int) = szv s k by unfold szv; rw [if_pos hlt])
    go_wp2
    go_ret
    exact ⟨ret_int R.out, (Below.refl _ _).alloc (Nat.le_refl _) _⟩
  · have R := Lib.hid (show k - s.size = szv s k by unfold szv; rw [if_neg hlt])
    go_wp2
    go_ret
    exact ⟨ret_int R.out, (Below.refl _ _).alloc (Nat.le_refl _) _⟩
theorem szv_in (s : ByteArray) (k : Int) (h0 : 0 ≤ k) : (-1 ≤ szv s k ∧ szv s k ≤ k) ∧ (0 ≤ szv s k → (s.size : Int) ≤ k) := by
  unfold szv
  split <;> omega

set_option maxHeartbeats 400000 in
theorem szVariableS_any (A : Option Addr) (n c : Nat) (k : Int) (vs : List (ByteArray × Int)) (w : World) (hx : VarsR w A n vs) (hs : ∀ j, j < n → (vN vs j).size ≤ 9223372036854775807) (hn : n ≤ 9223372036854775807) (h0 : 0 ≤ k) (h1 : k ≤ 1099511627776) :
    Calls Tryz.prog 48 #[.slice A n c, .int .i64 k] w fun e w' => (∃ r, e = .returned (.int .i64 r) ∧ -1 ≤ r ∧ r ≤ k ∧ (0 ≤ r → n + r ≤ k ∧ ∀ j, j < n → ((vN vs j).size : Int) ≤ k)) ∧ Below w.heap.size w w' := by
  go_enter Tryz.func48, Tryz.ntmps48
  by_cases hlt : k - n < 0
  · go_wp2
    go_ret
    exact ⟨⟨-1, rfl, by omega, by omega, fun h => absurd h (by omega)⟩, Below.refl _ _⟩
  go_wp2
  go_loopw [1, 5] (fun a i wr => ∃ (j : Nat) (r : Int), j ≤ n ∧ i = .int .i64 j ∧ a = .int .i64 r ∧ 0 ≤ r ∧ r ≤ k - n ∧ Hid (∀ t, t < j → ((vN vs t).size : Int) ≤ k) ∧ Below w.heap.size w wr) (fun _ i _ => n - (intOf i).toNat)
  case atStart => exact ⟨0, k - n, Nat.zero_le _, rfl, by go_num, by omega, by omega, Lib.hid fun t ht => absurd ht (by omega), Below.refl _ _⟩
  case round =>
    obtain ⟨j, r, hj, rfl, rfl, hr0, hr1, hall, hbw⟩ := hrel
    by_cases hjn : j < n
    · obtain ⟨ad, rfl, hc, hc'⟩ := (hx.below hbw).at_ hjn
      have hsj := hs j hjn
      have Q := Lib.hid (fun (x : Int) (hx : (x : Int) ≤ k) (e : ((vN vs j).size : Int) ≤ x) => (show ∀ t, t < j + 1 → ((vN vs t).size : Int) ≤ k from fun t ht => by
        rcases Nat.lt_or_ge t j with h | h
        · exact hall.out t h
        · obtain rfl : t = j := by omega
          omega))
      clear hx hs hall
      obtain ⟨s, hse⟩ : ∃ s, vN vs j = s := ⟨_, rfl⟩
      obtain ⟨x, hxe⟩ : ∃ x, vL vs j = x := ⟨_, rfl⟩
      rw [hse] at hc hsj
      rw [hxe] at hc'
      have F := szv_in s r hr0
      by_cases hneg : szv s r < 0
      · go_wp2_with (go_at_call 104; refine (szVariable_any s x r _ hsj hr0 (by omega)).mono ?_; rintro e w2 ⟨rfl, hb2⟩; have hb3 := Lib.hid (hbw.trans (hb2.mono (by exact hbw.size))))
        go_ret
        exact ⟨⟨-1, rfl, by omega, by omega, fun h => absurd h (by omega)⟩, hb3.out⟩
      · go_wp2_with (go_at_call 104; refine (szVariable_any s x r _ hsj hr0 (by omega)).mono ?_; rintro e w2 ⟨rfl, hb2⟩; have hb3 := Lib.hid (hbw.trans (hb2.mono (by exact hbw.size))))
        go_roundw
        case rel => exact ⟨j + 1, szv s r, by omega, by go_num, rfl, by omega, by omega, Lib.hid (Q.out r (by omega) (by rw [hse]; exact F.2 (by omega))), hb3.out⟩
        case measure => simp [intOf]; omega
    · obtain rfl : j = n := by omega
      go_wp2
      go_ret
      exact ⟨⟨r, rfl, by omega, by omega, fun _ => ⟨by omega, hall.out⟩⟩, hbw⟩
end

section
open Go.RowKit

set_option maxHeartbeats 400000 in
theorem toVariable_any (s : ByteArray) (x : Int) (w : World) :
    Calls Tryz.prog 110 #[.agg #[.string s, .int .i64 x]] w fun e w' => e = .returned (.agg #[.string s, .int .i64 x]) ∧ Below w.heap.size w w' := by
  obtain ⟨b0, x1, x2⟩ := box_two w #[.string s, .int .i64 x] #[.string s, .int .i64 x] 128 133
  go_enter Tryz.func110, Tryz.ntmps110
  go_wp2
  generalize (w.alloc (.cells #[.string s, .int .i64 x] 128)).alloc (.cells #[.string s, .int .i64 x] 133) = w0 at *
  have y2 := box_below (w' := w0.alloc (.cells #[.string s, .int .i64 x] 133)) x2 ((Below.refl _ _).alloc (Nat.le_refl _) _)
  have e0 := box_cell y2 0 _ rfl
  have e1 := box_cell y2 1 _ rfl
  refine bodyPost_ret (v := .agg #[.string s, .int .i64 x]) (by simp [results, Tryz.results110, go_sem, e0, e1]) rfl ⟨rfl, b0.alloc b0.size _⟩

/-- The cells of a list of variables. -/
def vcells : List (ByteArray × Int) → List Value
  | [] => []
  | p :: vs => .string p.1 :: .int .i64 p.2 :: vcells vs
theorem vcells_len (vs : List (ByteArray × Int)) : (vcells vs).length = vs.length * 2 := by
  induction vs with
  | nil => rfl
  | cons p vs ih => simp only [vcells, List.length_cons, ih]; omega
theorem vcells_at (vs : List (ByteArray × Int)) : ∀ k, k < vs.length → (vcells vs)[k * 2]? = some (.string (vN vs k)) ∧ (vcells vs)[k * 2 + 1]? = some (.int .i64 (vL vs k)) := by
  induction vs with
  | nil => intro k hk; exact absurd hk (by simp)
  | cons p vs ih =>
    intro k hk
    cases k with
    | zero => exact ⟨rfl, rfl⟩
    | succ k =>
      have := ih k (by simpa using hk)
      have e : (k + 1) * 2 = k * 2 + 1 + 1 := by omega
      rw [e]
      simpa only [vcells, List.getElem?_cons_succ, vN, vL] using this

/-- A row of variables of the call's own, in blocks from lo on and below hi. -/
structure OwnV (w : World) (lo hi : Nat) (A : Option Addr) (n c : Nat) (vs : List (ByteArray × Int)) : Prop where
  own : w.ownsRow lo 133 2 (.slice A n c) n (vcells vs)
  top : ∀ k, rowOf A = some k → k < hi
  small : n ≤ 1099511627776

theorem addr_add0 (g j : Nat) : (⟨g, 0, none⟩ : Addr).add j = ⟨g, j, none⟩ := by
  unfold Addr.add
  split
  · rename_i h0; rw [h0]
  · simp
section
variable {w w' : World} {A : Option Addr} {n c lo hi : Nat} {vs : List (ByteArray × Int)}
theorem OwnV.len (h : OwnV w lo hi A n c vs) : vs.length = n := by
  have h1 := h.own.1
  rw [vcells_len] at h1; omega
theorem OwnV.vars (h : OwnV w lo hi A n c vs) : VarsR w A n vs := by
  refine ⟨h.len, fun hn => ?_⟩
  have hl := h.len
  have ho := h.own
  rcases ho.2 with ⟨_, h0⟩ | ⟨g, cap, cur, hv, _⟩
  · omega
  · injection hv with hA _ hc
    subst hA hc
    refine ⟨_, rfl, fun j hj => ?_⟩
    rw [addr_add0]
    have := vcells_at vs j (by omega)
    exact ⟨(World.ownsRow.cellAt ho (j * 2) (by omega)).trans this.1, (World.ownsRow.cellAt ho (j * 2 + 1) (by omega)).trans this.2⟩
theorem OwnV.keep (h : OwnV w lo hi A n c vs) (hk : ∀ g, lo ≤ g → g < hi → g < w.heap.size → w'.heap[g]? = w.heap[g]?) : OwnV w' lo hi A n c vs := by
  refine ⟨⟨h.own.1, ?_⟩, h.top, h.small⟩
  rcases h.own.2 with h0 | ⟨g, cap, cur, hv, hb, hg, hr⟩
  · exact .inl h0
  · refine .inr ⟨g, cap, cur, hv, hb, ?_, hr⟩
    injection hv with hA
    rw [hk g hb (h.top g (by rw [hA]; rfl)) (lt_of_block hg)]
    exact hg
theorem OwnV.below (h : OwnV w lo hi A n c vs) (hb : Below w.heap.size w w') : OwnV w' lo hi A n c vs := h.keep fun g _ _ hg => hb.block g hg
theorem OwnV.chg {lo' hi' : Nat} (h : OwnV w lo hi A n c vs) (hc : Chg lo' hi' w w') (hd : hi ≤ lo' ∨ hi' ≤ lo) : OwnV w' lo hi A n c vs := h.keep fun g h1 h2 hg => hc.block g hg (by omega)
theorem OwnV.drewN (h : OwnV w lo hi A n c vs) (q : Nat) : OwnV (w.drewN q) lo hi A n c vs := ⟨h.own, h.top, h.small⟩
end
theorem Tryz.infoVariable : (Tryz.prog.info? 133).map (fun i => (i.zero, i.size, i.bytes)) = some (some (.agg #[.string ByteArray.empty, .int .i64 0]), 2, 24) := by kernel_rfl

/-- The cells ys agree with those of vs below k elements. -/
def AgreeV (vs : List (ByteArray × Int)) (ys : List Value) (n k : Nat) : Prop := ys.length = n * 2 ∧ ∀ t, t < k * 2 → ys[t]? = (vcells vs)[t]?
theorem AgreeV.step {vs : List (ByteArray × Int)} {ys : List Value} {n k : Nat} (h : AgreeV vs ys n k) (hl : vs.length = n) (hk : k < n) : AgreeV vs ((ys.set (k * 2) (.string (vN vs k))).set (k * 2 + 1) (.int .i64 (vL vs k))) n (k + 1) := by
  refine ⟨by simpa using h.1, fun t ht => ?_⟩
  have hv := vcells_at vs k (by omega)
  have h1 := h.1
  rcases Nat.lt_trichotomy t (k * 2) with ht1 | rfl | ht1
  · rw [List.getElem?_set_ne (by omega), List.getElem?_set_ne (by omega)]
    exact h.2 t ht1
  · rw [List.getElem?_set_ne (by omega), List.getElem?_set_self (by omega), hv.1]
  · obtain rfl : t = k * 2 + 1 := by omega
    rw [List.getElem?_set_self (by simp; omega), hv.2]
theorem AgreeV.fin {vs : List (ByteArray × Int)} {ys : List Value} {n k : Nat} (h : AgreeV vs ys n k) (hl : vs.length = n) (hk : n ≤ k) : ys = vcells vs := by
  apply List.ext_getElem?
  intro t
  rcases Nat.lt_or_ge t (n * 2) with h1 | h1
  · exact h.2 t (by omega)
  · rw [List.getElem?_eq_none (by have := h.1; omega), List.getElem?_eq_none (by rw [vcells_len]; omega)]
end

section
open Go.RowKit

theorem row_below {w w' : World} {lo n sz : Nat} {T : TypeId} {v : Value} {ys : List Value} (h : w.ownsRow lo T sz v n ys) (hb : Below w.heap.size w w') : w'.ownsRow lo T sz v n ys := by
  refine ⟨h.1, ?_⟩
  rcases h.2 with h0 | ⟨g, cap, cur, hv, hl, hg, hr⟩
  · exact .inl h0
  · exact .inr ⟨g, cap, cur, hv, hl, (hb.block g (lt_of_block hg)).trans hg, hr⟩
theorem row_two {w : World} {lo n c g k : Nat} {T : TypeId} {ys : List Value} (h : w.ownsRow lo T 2 (.slice (some ⟨g, 0, none⟩) n c) n ys) (hk : k < n) :
    (∃ u, w.cell? ⟨g, k * 2, none⟩ = some u) ∧ (∃ u, w.cell? ⟨g, k * 2 + 1, none⟩ = some u) ∧ w.frozen? ⟨g, k * 2, none⟩ = false ∧ w.frozen? ⟨g, k * 2 + 1, none⟩ = false := by
  have hl := h.1
  refine ⟨⟨ys[k * 2]'(by omega), ?_⟩, ⟨ys[k * 2 + 1]'(by omega), ?_⟩, World.ownsRow.frozenAt h _, World.ownsRow.frozenAt h _⟩
  · rw [World.ownsRow.cellAt h _ (by omega), List.getElem?_eq_getElem]
  · rw [World.ownsRow.cellAt h _ (by omega), List.getElem?_eq_getElem]

set_option maxHeartbeats 800000 in
theorem toVariableS_law (A : Option Addr) (n c : Nat) (vs : List (ByteArray × Int)) (w : World) (hx : VarsR w A n vs) (hn : n ≤ 1099511627776) :
    Calls Tryz.prog 53 #[.slice A n c] w fun e w' => ∃ A' c', e = .returned (.slice A' n c') ∧ OwnV w' w.heap.size w'.heap.size A' n c' vs ∧ Below w.heap.size w w' := by
  obtain ⟨i0, hi, hz0, hz1, hz2⟩ := info_parts Tryz.infoVariable
  go_enter Tryz.func53, Tryz.ntmps53
  go_wp2_with (at_make; refine wpList_make_full _ rfl _ _ 37 rfl w.heap.size 133 i0 _ 2 Tryz.underlying37 hi hz0 hz1 .i64 .i64 _ _ n rfl rfl rfl rfl (by rw [hz2]; omega) (by unfold maxLen; omega) (Nat.le_refl _) ?_; intro w1 hown hg)
  have hA : AgreeV vs (madeCells (Value.agg #[.string ByteArray.empty, .int .i64 0]).cells (n * 2)).toList n 0 := ⟨hown.1, fun t ht => absurd ht (by omega)⟩
  generalize (madeCells (Value.agg #[.string ByteArray.empty, .int .i64 0]).cells (n * 2)).toList = y0 at *
  have hb1 : Below w.heap.size w w1 := (Below.refl _ _).grown hg (Nat.le_refl _) (by simp)
  clear hg hi hz0 hz1 hz2
  go_loopw [4] (fun i wr => ∃ (k : Nat) (ys : List Value), k ≤ n ∧ i = .int .i64 k ∧ AgreeV vs ys n k ∧ wr.ownsRow w.heap.size 133 2 (.slice (some ⟨w.heap.size, 0, none⟩) n n) n ys ∧ Below w.heap.size w wr) (fun i _ => n - (intOf i).toNat)
  case atStart => exact ⟨0, _, Nat.zero_le _, rfl, hA, hown, hb1⟩
  case round =>
    clear hA hown hb1
    obtain ⟨k, ys, hk, rfl, hag, hown, hbw⟩ := hrel
    by_cases hlt : k < n
    · obtain ⟨ad, rfl, hc, hc'⟩ := (hx.below hbw).at_ hlt
      have R1 := Lib.hid (hag.step hx.1 hlt)
      clear hx hag
      obtain ⟨s, hse⟩ : ∃ s, vN vs k = s := ⟨_, rfl⟩
      obtain ⟨x, hxe⟩ : ∃ x, vL vs k = x := ⟨_, rfl⟩
      rw [hse] at hc R1
      rw [hxe] at hc' R1
      clear hse hxe
      have HO := Lib.hid hown
      have HB := Lib.hid hbw
      clear hown hbw
      go_wp2_with (go_at_call 110; refine (toVariable_any s x _).mono ?_; rintro e w2 ⟨rfl, hb2⟩; have R2 := Lib.hid (row_below HO.out hb2); have R3 := Lib.hid (HB.out.trans (hb2.mono HB.out.size)); obtain ⟨⟨u0, hu0⟩, ⟨u1, hu1⟩, hf0, hf1⟩ := row_two R2.out hlt)
      go_roundw
      case rel => exact ⟨k + 1, _, by omega, by go_num, R1.out, (World.ownsRow.stored (World.ownsRow.stored R2.out (k * 2) (.string s)).1 (k * 2 + 1) (.int .i64 x)).1, (R3.out.setCell (Nat.le_refl _) _).setCell (Nat.le_refl _) _⟩
      case measure => simp [intOf]; omega
    · have R := hag.fin hx.1 (by omega)
      subst R
      clear hag hx
      go_wp2
      go_ret
      exact ⟨_, _, rfl, ⟨hown, fun g hg => (World.ownsRow.lt hown g (by simpa [rowOf, Value.ownBlock] using hg)).2, hn⟩, hbw⟩
end

section
open Go.RowKit

set_option maxHeartbeats 400000 in
theorem eqVariable_any (s : ByteArray) (x : Int) (w : World) :
    Calls Tryz.prog 122 #[.agg #[.string s, .int .i64 x], .agg #[.string s, .int .i64 x]] w fun e w' => e = .returned (.bool true) ∧ Below w.heap.size w w' := by
  go_enter Tryz.func122, Tryz.ntmps122
  go_wp2
  go_ret
  exact ⟨rfl, ((Below.refl _ _).alloc (Nat.le_refl _) _).alloc (by simp) _⟩

set_option maxHeartbeats 800000 in
theorem eqVariableS_any (A A' : Option Addr) (n c c' : Nat) (vs : List (ByteArray × Int)) (w : World) (hx : VarsR w A n vs) (hy : VarsR w A' n vs) (hn : n ≤ 1099511627776) :
    Calls Tryz.prog 66 #[.slice A n c, .slice A' n c'] w fun e w' => e = .returned (.bool true) ∧ Below w.heap.size w w' := by
  go_enter Tryz.func66, Tryz.ntmps66
  go_wp2
  go_loopw [5] (fun i wr => ∃ (k : Nat), k ≤ n ∧ i = .int .i64 k ∧ Below w.heap.size w wr) (fun i _ => n - (intOf i).toNat)
  case atStart => exact ⟨0, Nat.zero_le _, rfl, Below.refl _ _⟩
  case round =>
    obtain ⟨k, hk, rfl, hbw⟩ := hrel
    by_cases hlt : k < n
    · obtain ⟨ad, rfl, hc0, hc1⟩ := (hx.below hbw).at_ hlt
      obtain ⟨ad', rfl, hd0, hd1⟩ := (hy.below hbw).at_ hlt
      clear hx hy
      obtain ⟨s, hse⟩ : ∃ s, vN vs k = s := ⟨_, rfl⟩
      obtain ⟨x, hxe⟩ : ∃ x, vL vs k = x := ⟨_, rfl⟩
      rw [hse] at hc0 hd0
      rw [hxe] at hc1 hd1
      clear hse hxe
      have hsz := hbw.size
      have l0 := block_lt_of_cell hc0
      have l1 := block_lt_of_cell hc1
      have m0 := block_lt_of_cell hd0
      have m1 := block_lt_of_cell hd1
      go_wp2
      go_region_held3 (fun w2 => (w2.cell? (ad.add (k * 2)) = some (.string s) ∧ w2.cell? ⟨(ad.add (k * 2)).block, (ad.add (k * 2)).off + 1, none⟩ = some (.int .i64 x)) ∧ w2.cell? (ad'.add (k * 2)) = some (.string s) ∧ w2.cell? ⟨(ad'.add (k * 2)).block, (ad'.add (k * 2)).off + 1, none⟩ = some (.int .i64 x)) (go_keep) ((go_at_call 122; refine (eqVariable_any _ _ _).mono ?_; rintro e w2 ⟨rfl, hb2⟩; have g1 := (hb2.cell l0).trans hc0; have g2 : w2.cell? ⟨(ad.add (k * 2)).block, (ad.add (k * 2)).off + 1, none⟩ = some (.int .i64 x) := (hb2.cell (by exact l1)).trans hc1; have g3 := (hb2.cell m0).trans hd0; have g4 : w2.cell? ⟨(ad'.add (k * 2)).block, (ad'.add (k * 2)).off + 1, none⟩ = some (.int .i64 x) := (hb2.cell (by exact m1)).trans hd1; have hbw2 := hbw.drew.trans (hb2.mono hsz)))
      go_wp2
      go_roundw
      case rel => exact ⟨k + 1, by omega, by go_num, hbw2⟩
      case measure => simp [intOf]; omega
    · go_wp2
      go_ret
      exact ⟨rfl, hbw⟩
end

section
open Go.RowKit

/-- What is left of a room behind a list of n. -/
def szi (n : Nat) (k : Int) : Int := if k - n < 0 then -1 else k - n
theorem szi_in (n : Nat) (k : Int) (h0 : 0 ≤ k) : (-1 ≤ szi n k ∧ szi n k ≤ k) ∧ (0 ≤ szi n k → szi n k = k - n) := by
  unfold szi
  split <;> omega

set_option maxHeartbeats 400000 in
theorem szIntS_any (A : Option Addr) (n c : Nat) (k : Int) (w : World) (hn : n ≤ 9223372036854775807) (h0 : 0 ≤ k) (h1 : k ≤ 1099511627776) :
    Calls Tryz.prog 72 #[.slice A n c, .int .i64 k] w fun e w' => e = .returned (.int .i64 (szi n k)) ∧ w' = w := by
  go_enter Tryz.func72, Tryz.ntmps72
  by_cases hlt : k - n < 0
  · have R := Lib.hid (show (-1 : Int) = szi n k by unfold szi; rw [if_pos hlt])
    go_wp2
    go_ret
    exact ⟨ret_int R.out, rfl⟩
  · have R := Lib.hid (show k - n = szi n k by unfold szi; rw [if_neg hlt])
    go_wp2
    go_ret
    exact ⟨ret_int R.out, rfl⟩

set_option maxHeartbeats 400000 in
theorem szRecord_any (x y : Int) (A : Option Addr) (n c : Nat) (k : Int) (w : World) (hn : n ≤ 9223372036854775807) (h0 : 0 ≤ k) (h1 : k ≤ 1099511627776) :
    Calls Tryz.prog 105 #[.agg #[.int .i64 x, .int .i64 y, .slice A n c], .int .i64 k] w fun e w' => e = .returned (.int .i64 (szi n k)) ∧ Below w.heap.size w w' := by
  go_enter Tryz.func105, Tryz.ntmps105
  have F := szi_in n k h0
  by_cases hlt : szi n k < 0
  · go_wp2_with (go_at_call 72; refine (szIntS_any _ n _ k _ hn h0 h1).mono ?_; rintro e w2 ⟨rfl, rfl⟩)
    go_ret
    exact ⟨ret_int (by omega), (Below.refl _ _).alloc (Nat.le_refl _) _⟩
  · go_wp2_with (go_at_call 72; refine (szIntS_any _ n _ k _ hn h0 h1).mono ?_; rintro e w2 ⟨rfl, rfl⟩)
    go_ret
    exact ⟨rfl, (Below.refl _ _).alloc (Nat.le_refl _) _⟩

set_option maxHeartbeats 800000 in
theorem eqRecord_any (x y : Int) (A A' : Option Addr) (n c c' : Nat) (xs : List Int) (w : World) (hx : Ints w A n xs) (hy : Ints w A' n xs) (hn : n ≤ 1099511627776) :
    Calls Tryz.prog 123 #[.agg #[.int .i64 x, .int .i64 y, .slice A n c], .agg #[.int .i64 x, .int .i64 y, .slice A' n c']] w fun e w' => e = .returned (.bool true) ∧ Below w.heap.size w w' := by
  have b0 := ((Below.refl w.heap.size w).alloc (Nat.le_refl _) (.cells #[.int .i64 x, .int .i64 y, .slice A n c] 135)).alloc (by simp) (.cells #[.int .i64 x, .int .i64 y, .slice A' n c'] 135)
  have HX := Lib.hid (hx.below b0)
  have HY := Lib.hid (hy.below b0)
  have HB := Lib.hid b0
  clear hx hy b0
  go_enter Tryz.func123, Tryz.ntmps123
  go_wp2_with (go_at_call 27; refine (eqIntS_true _ _ n _ _ xs _ HX.out HY.out hn).mono ?_; rintro e w2 ⟨rfl, q, rfl⟩)
  go_ret
  exact ⟨rfl, below_drewN HB.out q⟩
end
end Go.Proofs.YtfanpbfmnckmnaaGreat
