/- Several small texts in one: DrP, DrK. -/
import Derived.Test.YtahbcnclhohnaaaGreatYc
import Derived.Test.YtahbcnclhohnaaaGreatZh
namespace Go.Proofs.YtahbcnclhohnaaaGreat

section
open Go.RowKit

/-- A drawn schema, data and key variables, by a cursor. -/
def DKy (g L : Nat) (w : World) (e : Ending) (w' : World) : Prop := ∃ (A1 : Option Addr) (n1 c1 : Nat) (vs : List (ByteArray × Int)) (B : Option Addr) (m d : Nat) (U : Option Addr) (l k : Nat) (us : List Int), e = .returned (.tuple #[.slice A1 n1 c1, .slice B m d, .slice U l k]) ∧ n1 ≤ 8 ∧ DVr w' w.heap.size A1 n1 c1 vs ∧ m ≤ 41 ∧ DRs w' w.heap.size B m d ∧ l ≤ 9 ∧ OwnI w' w.heap.size w'.heap.size U l k us ∧ Cur w' g L ∧ Chg g (g + 1) w w'
set_option maxRecDepth 100000 in
set_option maxHeartbeats 2000000 in
theorem keyed_any (g L : Nat) (w : World) (h : Cur w g L) (hL : L ≤ 300000) :
    Calls Tryz.prog 19 #[.pointer (some ⟨g, 0, none⟩)] w (DKy g (L + 1200) w) := by
  have hlt := h.lt
  have hc0 := h
  have hG0 := Chg.refl g (g + 1) w
  clear h
  go_enter Tryz.func19, Tryz.ntmps19
  go_wp2_with fail
  refine (anySchema_any _ _ _ hc0 (by omega)).mono ?_
  rintro e w1 ⟨A1, n1, c1, vs, rfl, hn1, od, hc1, hg1⟩
  have hG1 := hG0.trans hg1
  have z1 := hg1.size
  clear hc0 hG0 hg1
  go_wp2_with fail
  refine (anyData_any _ _ w.heap.size n1 c1 A1 vs _ hc1 (by omega) od (by omega) (by omega)).mono ?_
  rintro e w4 ⟨B, m, d, rfl, hm, or_, hc4, hg4⟩
  replace od := od.chg hg4 (by omega)
  replace or_ := or_.mono (show w.heap.size ≤ _ by omega)
  have hG4 := hG1.trans hg4
  have z4 := hg4.size
  clear hc1 hG1 hg4
  go_wp2_with fail
  refine (fixed_any _ _ w.heap.size n1 c1 A1 vs _ hc4 (by omega) od (by omega) (by omega)).mono ?_
  rintro e w5 ⟨U, l, k, us, rfl, hl, ou, hc5, hg5⟩
  have HD := Lib.hid (od.chg hg5 (by omega))
  have HR := Lib.hid (or_.chg hg5 (by omega))
  have HU := Lib.hid (ou.fit (show w.heap.size ≤ _ by omega))
  have HG := Lib.hid (hG4.trans hg5)
  have HC := Lib.hid (hc5.mono (show _ ≤ L + 1200 by omega))
  clear hc4 hG4 hg5 od or_ ou hc5
  go_wp2
  exact bodyPost_ret (v := .tuple #[.slice A1 n1 c1, .slice B m d, .slice U l k]) (by simp [results, Tryz.results19, go_sem]) rfl ⟨A1, n1, c1, vs, B, m, d, U, l, k, us, rfl, by omega, HD.out, hm, HR.out, hl, HU.out, HC.out, HG.out⟩

/-- A drawn schema, data, key variables and two numbers. -/
def DSp (w : World) (e : Ending) (w' : World) : Prop := ∃ (A1 : Option Addr) (n1 c1 : Nat) (vs : List (ByteArray × Int)) (B : Option Addr) (m d : Nat) (U : Option Addr) (l k : Nat) (us : List Int) (x y : Int), e = .returned (.tuple #[.slice A1 n1 c1, .slice B m d, .slice U l k, .int .i64 x, .int .i64 y]) ∧ n1 ≤ 8 ∧ DVr w' w.heap.size A1 n1 c1 vs ∧ m ≤ 41 ∧ DRs w' w.heap.size B m d ∧ l ≤ 9 ∧ OwnI w' w.heap.size w'.heap.size U l k us ∧ Below w.heap.size w w'
set_option maxRecDepth 100000 in
set_option maxHeartbeats 2000000 in
theorem drawSwapPlan_any (A : Option Addr) (n c : Nat) (w : World) (hb : Byt w A n) (hn : n ≤ 9223372036854775807) :
    Calls Tryz.prog 5 #[.slice A n c] w (DSp w) := by
  have xc := box_new w #[.slice A n c, .int .i64 0, .int .u64 0] 52
  have b0 := below_new w (.cells #[.slice A n c, .int .i64 0, .int .u64 0] 52)
  have S := Lib.hid (show (w.alloc (.cells #[.slice A n c, .int .i64 0, .int .u64 0] 52)).heap.size = w.heap.size + 1 by simp)
  have hc0 : Cur _ w.heap.size 0 := cur_new2 xc (by omega) hb (fun b hb => b0.block b hb) hn
  have hG0 : Chg w.heap.size (w.heap.size + 1) w _ := Chg.of_below b0
  clear xc b0
  go_enter Tryz.func5, Tryz.ntmps5
  go_wp2_with fail
  generalize w.alloc (.cells #[.slice A n c, .int .i64 0, .int .u64 0] 52) = w0 at *
  refine (keyed_any _ _ _ hc0 (by omega)).mono ?_
  rintro e w1 ⟨A1, n1, c1, vs, B, m, d, U, l, k, us, rfl, hn1, od, hm, or_, hl, ou, hc1, hg1⟩
  have s0 : w.heap.size + 1 ≤ w0.heap.size := by have := S.out; omega
  have hG1 := hG0.trans hg1
  have z1 := hg1.size
  replace od := od.mono (show w.heap.size + 1 ≤ _ by omega)
  replace or_ := or_.mono (show w.heap.size + 1 ≤ _ by omega)
  replace ou := ou.fit (show w.heap.size + 1 ≤ _ by omega)
  clear hg1 hG0 hc0
  go_wp2_with fail
  have xlit := box_new w1 #[.int .i64 0, .int .i64 1, .int .i64 2, .int .i64 5, .int .i64 20, .int .i64 21, .int .i64 (-1)] 3
  have bl := below_new w1 (.cells #[.int .i64 0, .int .i64 1, .int .i64 2, .int .i64 5, .int .i64 20, .int .i64 21, .int .i64 (-1)] 3)
  have hc2 := hc1.below bl
  have hG2 := hG1.alloc (.cells #[.int .i64 0, .int .i64 1, .int .i64 2, .int .i64 5, .int .i64 20, .int .i64 21, .int .i64 (-1)] 3)
  have z2 : w1.heap.size + 1 ≤ (w1.alloc (.cells #[.int .i64 0, .int .i64 1, .int .i64 2, .int .i64 5, .int .i64 20, .int .i64 21, .int .i64 (-1)] 3)).heap.size := by simp
  replace od := od.below bl
  replace or_ := or_.below bl
  replace ou := ou.below bl
  clear hc1 hG1 bl
  generalize w1.alloc (.cells #[.int .i64 0, .int .i64 1, .int .i64 2, .int .i64 5, .int .i64 20, .int .i64 21, .int .i64 (-1)] 3) = u3 at *
  have olit := own_lit [0, 1, 2, 5, 20, 21, -1] xlit (by decide)
  clear xlit
  refine (among_any _ _ _ _ _ _ _ (-1) 21 [0, 1, 2, 5, 20, 21, -1] _ hc2 (by omega) olit (by omega) (by decide) (by decide) (by decide)).mono ?_
  rintro e w4 ⟨x, rfl, _, _, hc4, hg4⟩
  replace od := od.chg hg4 (by omega)
  replace or_ := or_.chg hg4 (by omega)
  replace ou := ou.chg hg4 (by omega)
  have hG4 := hG2.trans hg4
  have z4 := hg4.size
  clear hc2 hG2 hg4 olit
  go_wp2_with fail
  refine (anySeed_any _ _ _ hc4 (by omega)).mono ?_
  rintro e w5 ⟨y, rfl, _, _, hc5, hg5⟩
  replace od := od.chg hg5 (by omega)
  replace or_ := or_.chg hg5 (by omega)
  replace ou := ou.chg hg5 (by omega)
  have HD := Lib.hid (od.mono (show w.heap.size ≤ _ by omega))
  have HR := Lib.hid (or_.mono (show w.heap.size ≤ _ by omega))
  have HU := Lib.hid (ou.fit (show w.heap.size ≤ _ by omega))
  have HB := Lib.hid (Chg.to_below (Nat.le_refl _) (hG4.trans hg5))
  clear od or_ ou hc4 hc5 hg5 hG4
  go_wp2
  exact bodyPost_ret (v := .tuple #[.slice A1 n1 c1, .slice B m d, .slice U l k, .int .i64 x, .int .i64 y]) (by simp [results, Tryz.results5, go_sem]) rfl ⟨A1, n1, c1, vs, B, m, d, U, l, k, us, x, y, rfl, hn1, HD.out, hm, HR.out, hl, HU.out, HB.out⟩
end

section
open Go.RowKit

def slLen : Value → Nat
  | .slice _ n _ => n
  | _ => 0
/-- One more row, in a block of its own, behind the others. -/
theorem ll_snoc {w w6 : World} {lo c c6 rn : Nat} {D D6 : Option Addr} {R : List (List Int)} {r : List Int} {ys : List Value} {o : Obj} (ho : w.ownsRow lo 26 1 (.slice D R.length c) R.length ys) (hs : Sub w lo w.heap.size ys 1 0 (fun t => R[t]?.getD []) 0 R.length) (hlo : lo ≤ w.heap.size) (hr : rn = r.length) (hrn : rn ≤ 1000) (hR : R.length ≤ 1000)
    (hown : w6.ownsRow lo 26 1 (.slice D6 (R.length + 1) c6) (R.length + 1) (ys ++ [.slice (some ⟨w.heap.size, 0, none⟩) rn rn])) (hg : ((w.alloc (.cells (r.map (Value.int .i64)).toArray 3)).alloc o).grownBy w6 (rowOf D)) :
    OwnII w6 lo w6.heap.size D6 (R ++ [r]).length c6 (fun t => (R ++ [r])[t]?.getD []) := by
  have bA := below_new w (.cells (r.map (Value.int .i64)).toArray 3)
  have oA := (own_new w r rn hr (by omega)).mono hlo
  have hS := hs.snoc (r := r) (rc := rn) (rn := rn) (by have := ho.1; omega) rfl (bA.alloc bA.size o) (oA.below (below_new _ o)) hr.symm (by omega) (Nat.le_refl _) (row_below (row_below ho bA) (below_new _ o)) hg
  rw [List.length_append]
  exact ⟨⟨_, hown, hS⟩, fun q hq => (row_ge hown q hq).2, by show R.length + 1 ≤ _; omega⟩
theorem OwnII.keepG {w w' : World} {A : Option Addr} {n c g lo : Nat} {L : Nat → List Int} (h : OwnII w lo w.heap.size A n c L) (hc : Chg g (g + 1) w w') (hg : g < lo) : OwnII w' lo w'.heap.size A n c L := (h.chg hc (by omega)).fit (Nat.le_refl _)
theorem Chg.grownK {lo hi : Nat} {a b c : World} {A : Option Addr} (h : Chg lo hi a b) (hg : b.grownBy c (rowOf A)) (hr : ∀ k, rowOf A = some k → a.heap.size ≤ k) : Chg lo hi a c :=
  ⟨hg.os.trans h.os, hg.tape.trans h.tape, hg.output.trans h.output, Nat.le_trans h.size hg.size, fun k hk ho => (hg.block k (Nat.lt_of_lt_of_le hk h.size) (fun e => by have := hr k e.symm; omega)).trans (h.block k hk ho)⟩
theorem Cur.grownK {a c : World} {A : Option Addr} {g L : Nat} {o1 o2 : Obj} (h : Cur a g L) (hg : ((a.alloc o1).alloc o2).grownBy c (rowOf A)) (hr : ∀ k, rowOf A = some k → g < k) : Cur c g L :=
  ((h.below (below_new a o1)).below (below_new _ o2)).keep fun b hb => hg.block b (by have := h.lt; simp; omega) (fun e => by have := hr b e.symm; omega)

set_option maxRecDepth 100000 in
set_option maxHeartbeats 4000000 in
theorem swaps_any (g L n : Nat) (w : World) (h : Cur w g L) (hL : L ≤ 300000) (hn : n ≤ 1000) :
    Calls Tryz.prog 46 #[.pointer (some ⟨g, 0, none⟩), .int .i64 n] w fun e w' => ∃ (A : Option Addr) (c : Nat) (R : List (List Int)), e = .returned (.slice A R.length c) ∧ R.length ≤ 30 ∧ OwnII w' w.heap.size w'.heap.size A R.length c (fun t => R[t]?.getD []) ∧ Cur w' g (L + 200) ∧ Chg g (g + 1) w w' := by
  have hlt := h.lt
  go_enter Tryz.func46, Tryz.ntmps46
  go_wp2_with fail
  refine (pick_any g L 4 w h (by omega) (by omega)).mono ?_
  rintro e w1 ⟨v, rfl, hv0, hv1, hc1, hg1⟩
  have hv1 : v ≤ 3 := by simpa using hv1
  obtain ⟨kv, rfl⟩ := Int.eq_ofNat_of_zero_le hv0
  have s1 := hg1.size
  go_wp2_with fail
  go_loopw [5, 6] (fun a i wr => ∃ (kk : Nat) (D : Option Addr) (c3 : Nat) (R : List (List Int)), kk ≤ 3 ∧ R.length + kk ≤ 3 ∧ i = .int .i64 kk ∧ a = .slice D R.length c3 ∧ OwnII wr w.heap.size wr.heap.size D R.length c3 (fun t => R[t]?.getD []) ∧ Cur wr g (L + 2 + 4 * R.length) ∧ Chg g (g + 1) w wr) (fun _ i _ => (intOf i).toNat)
  case atStart => exact ⟨kv, none, 0, [], by omega, by simp; omega, rfl, rfl, OwnII.nil_, hc1, hg1⟩
  case round =>
    clear hc1 hg1 h
    obtain ⟨kk, D, c3, R, hkk, hRk, rfl, rfl, hO, hc, hG⟩ := hrel
    obtain ⟨wo, rfl⟩ : ∃ wo : World, wo = wr := ⟨_, rfl⟩
    have zo := hG.size
    by_cases hgo : 0 < kk ∧ 1 < n
    · obtain ⟨h1, h2⟩ := hgo
      obtain ⟨kk, rfl⟩ : ∃ j, kk = j + 1 := ⟨kk - 1, by omega⟩
      go_wp2_with fail
      refine (pick_any g _ _ wo hc (by omega) (by omega)).mono ?_
      rintro e w2 ⟨i, rfl, hi0, hi1, hc2, hg2⟩
      have hi1 : i ≤ (n : Int) - 2 := by split at hi1 <;> omega
      have hO2 := hO.keepG hg2 (by omega)
      have hG2 := hG.trans hg2
      have z2 := hG2.size
      clear hO hc hg2 hG
      go_wp2_with fail
      refine (pick_any g _ _ w2 hc2 (by omega) (by omega)).mono ?_
      rintro e w4 ⟨x, rfl, hx0, hx1, hc4, hg4⟩
      have hx1 : x ≤ (n : Int) := by split at hx1 <;> omega
      have hO4 := hO2.keepG hg4 (by omega)
      have hG4 := hG2.trans hg4
      have z4 := hG4.size
      clear hO2 hc2 hg4 hG2
      obtain ⟨ys, ho, hs⟩ := hO4.cells
      have HS := Lib.hid (fun (w6 : World) (D6 : Option Addr) (c6 : Nat) (o : Obj) => ll_snoc (w6 := w6) (D6 := D6) (c6 := c6) (o := o) (r := [i, i + 1 + x]) (rn := 2) ho hs z4 rfl (by omega) (by omega))
      have HR1 := Lib.hid (fun q hq => (row_ge ho q hq).1)
      have hoB := row_below ho (below_new w4 (.cells #[.int .i64 i, .int .i64 (i + 1 + x)] 3))
      have HC := Lib.hid hc4
      have HG := Lib.hid hG4
      clear hO4 hs hc4 hG4
      go_wp2_with (at_builtin; refine wp_appII1 rfl _ _ rfl w.heap.size D _ c3 ys rfl hoB _ rfl (by simp) rfl (by omega) (by simp; omega) ?_; intro D6 c6 w6 hown6 hg6)
      have HO6 := Lib.hid (HS.out w6 D6 c6 _ hown6 hg6)
      have HG6 := Lib.hid (((HG.out.alloc _).alloc _).grownK hg6 HR1.out)
      have HC6 := Lib.hid (HC.out.grownK hg6 (fun q hq => by have := HR1.out q hq; omega))
      clear hown6 hg6 hoB
      go_roundw
      case rel => exact ⟨kk, D6, c6, R ++ [[i, i + 1 + x]], by omega, by simp; omega, by go_num, by simp, HO6.out, HC6.out.mono (by simp; omega), HG6.out⟩
      case measure => simp [intOf]
    · have hgo2 : kk = 0 ∨ (0 < kk ∧ n ≤ 1) := by omega
      have HO := Lib.hid hO
      have HC := Lib.hid (hc.mono (show _ ≤ L + 20 by omega))
      have HG := Lib.hid hG
      have hR3 : R.length ≤ 3 := by omega
      clear hO hc hG hgo hRk
      rcases hgo2 with rfl | ⟨h1, h2⟩
      all_goals (go_wp2_with fail)
      all_goals
        refine (pick_any g _ 24 wo HC.out (by omega) (by omega)).mono ?_
        rintro e w8 ⟨v, rfl, hv0, hv1, hc8, hg8⟩
        have O8 := HO.out.keepG hg8 (by omega)
        have G8 := Lib.hid (HG.out.trans hg8)
        have C8 := Lib.hid hc8
        have z8 := G8.out.size
        clear HO HC HG hc8 hg8
        rcases (show v = 0 ∨ v = 1 ∨ v = 2 ∨ 2 < v by omega) with rfl | rfl | rfl | hvv
        · skip
          obtain ⟨ys, ho, hs⟩ := O8.cells
          have HS := Lib.hid (fun (w6 : World) (D6 : Option Addr) (c6 : Nat) (o : Obj) => ll_snoc (w6 := w6) (D6 := D6) (c6 := c6) (o := o) (r := [0, (n : Int)]) (rn := 2) ho hs z8 rfl (by omega) (by omega))
          have HR1 := Lib.hid (fun q hq => (row_ge ho q hq).1)
          have hoB := row_below ho (below_new w8 (.cells #[.int .i64 0, .int .i64 (n : Int)] 3))
          clear O8 hs
          go_wp2_with (at_builtin; refine wp_appII1 rfl _ _ rfl w.heap.size D _ c3 ys rfl hoB _ rfl (by simp) rfl (by omega) (by simp; omega) ?_; intro D6 c6 w6 hown6 hg6)
          have HO6 := Lib.hid (HS.out w6 D6 c6 _ hown6 hg6)
          have HG6 := Lib.hid (((G8.out.alloc _).alloc _).grownK hg6 HR1.out)
          have HC6 := Lib.hid (C8.out.grownK hg6 (fun q hq => by have := HR1.out q hq; omega))
          clear hown6 hg6 hoB
          go_ret
          exact ⟨D6, c6, R ++ [[0, (n : Int)]], by simp, by simp; omega, HO6.out, HC6.out.mono (by omega), HG6.out⟩
        · skip
          obtain ⟨ys, ho, hs⟩ := O8.cells
          have HS := Lib.hid (fun (w6 : World) (D6 : Option Addr) (c6 : Nat) (o : Obj) => ll_snoc (w6 := w6) (D6 := D6) (c6 := c6) (o := o) (r := [0]) (rn := 1) ho hs z8 rfl (by omega) (by omega))
          have HR1 := Lib.hid (fun q hq => (row_ge ho q hq).1)
          have hoB := row_below ho (below_new w8 (.cells #[.int .i64 0] 3))
          clear O8 hs
          go_wp2_with (at_builtin; refine wp_appII1 rfl _ _ rfl w.heap.size D _ c3 ys rfl hoB _ rfl (by simp) rfl (by omega) (by simp; omega) ?_; intro D6 c6 w6 hown6 hg6)
          have HO6 := Lib.hid (HS.out w6 D6 c6 _ hown6 hg6)
          have HG6 := Lib.hid (((G8.out.alloc _).alloc _).grownK hg6 HR1.out)
          have HC6 := Lib.hid (C8.out.grownK hg6 (fun q hq => by have := HR1.out q hq; omega))
          clear hown6 hg6 hoB
          go_ret
          exact ⟨D6, c6, R ++ [[0]], by simp, by simp; omega, HO6.out, HC6.out.mono (by omega), HG6.out⟩
        · have C9 := C8.out.mono (show _ ≤ L + 30 + 2 * R.length by omega)
          have G9 := G8.out
          clear C8 G8
          go_wp2_with fail
          go_loopw [5] (fun a wr => ∃ (D : Option Addr) (c3 : Nat) (R : List (List Int)), R.length ≤ 21 ∧ a = .slice D R.length c3 ∧ OwnII wr w.heap.size wr.heap.size D R.length c3 (fun t => R[t]?.getD []) ∧ Cur wr g (L + 30 + 2 * R.length) ∧ Chg g (g + 1) w wr) (fun a _ => 22 - slLen a)
          case atStart => exact ⟨D, c3, R, by omega, rfl, O8, C9, G9⟩
          case round =>
            clear O8 C9 G9 hR3 z8
            obtain ⟨D, c3, R, hR3, rfl, hO, hc, hG⟩ := hrel
            have hcur : Cur wr g (L + 30 + 42) := hc.mono (by omega)
            go_wp2_with fail
            refine (pick_any g _ 2 wr hc (by omega) (by omega)).mono ?_
            rintro e w9 ⟨x, rfl, hx0, hx1, hc9, hg9⟩
            have hx1 : x ≤ 1 := by simpa using hx1
            have O9 := hO.keepG hg9 (by omega)
            have G9 := Lib.hid (hG.trans hg9)
            have C9 := Lib.hid hc9
            have z9 := G9.out.size
            clear hO hc hG hc9 hg9 hcur
            by_cases hh : (R.length : Int) < 20 + x
            · by_cases hn1 : 1 < n
              · first
                    | (exfalso; omega)
                    | (obtain ⟨ys, ho, hs⟩ := O9.cells
                       have HS := Lib.hid (fun (w6 : World) (D6 : Option Addr) (c6 : Nat) (o : Obj) => ll_snoc (w6 := w6) (D6 := D6) (c6 := c6) (o := o) (r := [0, 1]) (rn := 2) ho hs z9 rfl (by omega) (by omega))
                       have HR1 := Lib.hid (fun q hq => (row_ge ho q hq).1)
                       have hoB := row_below ho (below_new w9 (.cells #[.int .i64 0, .int .i64 1] 3))
                       clear O9 hs
                       go_wp2_with (at_builtin; refine wp_appII1 rfl _ _ rfl w.heap.size D _ c3 ys rfl hoB _ rfl (by simp) rfl (by omega) (by simp; omega) ?_; intro D6 c6 w6 hown6 hg6)
                       have HO6 := Lib.hid (HS.out w6 D6 c6 _ hown6 hg6)
                       have HG6 := Lib.hid (((G9.out.alloc _).alloc _).grownK hg6 HR1.out)
                       have HC6 := Lib.hid (C9.out.grownK hg6 (fun q hq => by have := HR1.out q hq; omega))
                       clear hown6 hg6 hoB
                       go_roundw
                       case rel => exact ⟨D6, c6, R ++ [[0, 1]], by simp; omega, by simp, HO6.out, HC6.out.mono (by simp; omega), HG6.out⟩
                       case measure => simp [slLen]; omega)
              · have hn0 : n ≤ 1 := by omega
                clear hn1
                go_wp2
                go_ret
                exact ⟨D, c3, R, rfl, by omega, O9, C9.out.mono (by omega), G9.out⟩
            · go_wp2
              go_ret
              exact ⟨D, c3, R, rfl, by omega, O9, C9.out.mono (by omega), G9.out⟩
        · have q0 : (v == 0) = false := by simp; omega
          have q1 : (v == 1) = false := by simp; omega
          have q2 : (v == 2) = false := by simp; omega
          clear hvv
          go_wp2
          go_ret
          exact ⟨D, c3, R, rfl, by omega, O8, C8.out.mono (by omega), G8.out⟩
end
end Go.Proofs.YtahbcnclhohnaaaGreat
