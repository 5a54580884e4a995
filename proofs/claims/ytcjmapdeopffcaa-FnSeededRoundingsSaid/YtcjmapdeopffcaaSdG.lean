/- Drawn matrices: a base, a grid. -/
import Derived.Test.YtcjmapdeopffcaaHb
import Derived.Test.YtcjmapdeopffcaaYb
import Derived.Test.YtcjmapdeopffcaaYa
import Derived.Deep.RegionLaw
namespace Go.Proofs.Ytcjmapdeopffcaa
open Go.RowKit Flo
set_option linter.unusedVariables false

set_option maxRecDepth 100000 in
set_option maxHeartbeats 2000000 in
theorem base_any (g L : Nat) (w : World) (h : Cur w g L) (hL : L ≤ 800000) :
    Calls Try.prog 48 #[.pointer (some ⟨g, 0, none⟩)] w (DInt 1 101 g (L + 2) w) := by
  have hlt := h.lt
  have xlit := box_new w #[.int .i64 2, .int .i64 3, .int .i64 5, .int .i64 5, .int .i64 10, .int .i64 100, .int .i64 101, .int .i64 1] 3
  have hc1 := h.below (below_new w (.cells #[.int .i64 2, .int .i64 3, .int .i64 5, .int .i64 5, .int .i64 10, .int .i64 100, .int .i64 101, .int .i64 1] 3))
  have hG1 := (Chg.refl g (g + 1) w).alloc (.cells #[.int .i64 2, .int .i64 3, .int .i64 5, .int .i64 5, .int .i64 10, .int .i64 100, .int .i64 101, .int .i64 1] 3)
  clear h
  go_enter Try.func48, Try.ntmps48
  go_wp2_with fail
  generalize w.alloc (.cells #[.int .i64 2, .int .i64 3, .int .i64 5, .int .i64 5, .int .i64 10, .int .i64 100, .int .i64 101, .int .i64 1] 3) = u2 at *
  have olit := own_lit [2, 3, 5, 5, 10, 100, 101, 1] xlit (by decide)
  clear xlit
  refine (among_any g _ _ _ _ _ _ 1 101 [2, 3, 5, 5, 10, 100, 101, 1] _ hc1 (by omega) olit (by omega) (by decide) (by decide) (by decide)).mono ?_
  rintro e w3 ⟨v3, rfl, v3l, v3u, hc3, hg3⟩
  have hG3 := hG1.trans hg3
  clear hc1 hG1 hg3 olit
  go_wp2
  go_ret
  exact ⟨_, rfl, v3l, v3u, hc3, hG3⟩

/-- One more row behind the others, in a block from T on. -/
theorem Sub.snocT {wa w' : World} {lo T n c : Nat} {A : Option Addr} {ys : List Value} {R : List (List Int)} {r : List Int} {g rn rc : Nat} (h : Sub wa lo T ys 1 0 (fun t => R[t]?.getD []) 0 n) (hl : ys.length = n) (hR : R.length = n) (ho : Own wa lo (some ⟨g, 0, none⟩) rn rc r) (hrn : r.length = rn) (hrs : rn ≤ 1099511627776) (hgn : T ≤ g)
    (hrow : wa.ownsRow lo 24 1 (.slice A n c) n ys) (hg : wa.grownBy w' (rowOf A)) : Sub w' lo w'.heap.size (ys ++ [.slice (some ⟨g, 0, none⟩) rn rc]) 1 0 (fun t => (R ++ [r])[t]?.getD []) 0 (n + 1) := by
  subst hrn
  have e1 : ∀ t : Nat, t * 1 + 0 = t := fun t => by omega
  have hne : ∀ {V : Option Addr} {m d : Nat} {xs : List Int}, Own wa lo V m d xs → ∀ b, V = some ⟨b, 0, none⟩ → rowOf A ≠ some b := fun {V m d xs} hV b hVb hAb => by
    rcases A with _ | a
    · cases hAb
    · simp only [rowOf, Option.some.injEq] at hAb
      rcases hrow.2 with ⟨h0, _⟩ | ⟨g', cap, cur, hv, _, hgh, _⟩
      · cases h0
      · injection hv with hv
        injection hv with hv
        subst hv
        subst hAb
        exact own_box_ne hV hgh (by decide) (by rw [hVb]; rfl)
  have hold : ∀ j, j < n → ∀ b, (ys[j]?).bind Value.ownBlock = some b → b < T := fun j hj b hbj => by
    obtain ⟨V3, c3, e3, ho3⟩ := h.row j (by omega) hj
    rw [e1] at e3
    rw [e3] at hbj
    exact ho3.top b (by simpa [ownBlock_rowOf] using hbj)
  have hy : ∀ j, j < n → (ys ++ [.slice (some ⟨g, 0, none⟩) r.length rc])[j]? = ys[j]? := fun j hj => List.getElem?_append_left (by omega)
  have hyn : (ys ++ [.slice (some ⟨g, 0, none⟩) r.length rc])[n]? = some (.slice (some ⟨g, 0, none⟩) r.length rc) := by
    rw [List.getElem?_append_right (by omega), hl, Nat.sub_self]; rfl
  refine ⟨fun j h1 h2 => ?_, fun i j b h1 h2 h3 hi hj => ?_⟩
  · rw [e1]
    rcases Nat.lt_or_ge j n with hj | hj
    · obtain ⟨V3, c3, e3, ho3⟩ := h.row j h1 hj
      rw [e1] at e3
      have eL : (R ++ [r])[j]?.getD [] = R[j]?.getD [] := by rw [List.getElem?_append_left (by omega)]
      rw [hy j hj]
      rw [eL]
      exact ⟨V3, c3, e3, OwnI.of_own (ho3.own.far hg (fun b hA e => hne ho3.own b hA e)) ho3.small⟩
    · obtain rfl : j = n := by omega
      have eL : (R ++ [r])[j]?.getD [] = r := by rw [List.getElem?_append_right (by omega), hR, Nat.sub_self]; rfl
      rw [hyn]
      rw [eL]
      exact ⟨_, rc, rfl, OwnI.of_own (ho.far hg (fun b hA e => hne ho b hA e)) hrs⟩
  · rw [e1] at hi hj
    rcases Nat.lt_or_ge j n with hjn | hjn
    · rw [hy i (by omega)] at hi
      rw [hy j hjn] at hj
      exact h.apart i j b h1 h2 hjn (by rw [e1]; exact hi) (by rw [e1]; exact hj)
    · obtain rfl : j = n := by omega
      rw [hy i (by omega)] at hi
      rw [hyn] at hj
      have hb1 := hold i (by omega) b hi
      simp only [Option.bind_some, Value.ownBlock, Option.some.injEq] at hj
      omega
/-- A row of rows of the call's own takes one more row. -/
theorem OwnII.more {w : World} {lo T n c g rn rc : Nat} {D : Option Addr} {R : List (List Int)} {r : List Int} (h : OwnII w lo T D n c (fun t => R[t]?.getD [])) (hn : R.length = n) (ho : Own w lo (some ⟨g, 0, none⟩) rn rc r) (hrn : r.length = rn) (hrs : rn ≤ 1099511627776) (hgn : T ≤ g) (hn2 : n ≤ 1000) :
    ∃ ys, w.ownsRow lo 24 1 (.slice D n c) n ys ∧ (∀ k, rowOf D = some k → lo ≤ k) ∧ ∀ (w6 : World) (D6 : Option Addr) (c6 : Nat), w6.ownsRow lo 24 1 (.slice D6 (n + 1) c6) (n + 1) (ys ++ [.slice (some ⟨g, 0, none⟩) rn rc]) → (w.alloc (.cells #[.slice (some ⟨g, 0, none⟩) rn rc] 24)).grownBy w6 (rowOf D) → OwnII w6 lo w6.heap.size D6 (n + 1) c6 (fun t => (R ++ [r])[t]?.getD []) := by
  obtain ⟨ys, h1, h2⟩ := h.cells
  refine ⟨ys, h1, fun k hk => (row_ge h1 k hk).1, fun w6 D6 c6 hown hg => ?_⟩
  have b1 := below_new w (.cells #[.slice (some ⟨g, 0, none⟩) rn rc] 24)
  have hS := (h2.below b1).snocT (r := r) (rc := rc) (rn := rn) (by have := h1.1; omega) hn (ho.below b1) hrn hrs hgn (row_below h1 b1) hg
  exact ⟨⟨_, hown, hS⟩, fun q hq => (row_ge hown q hq).2, by omega⟩
theorem Chg.grownT {lo hi : Nat} {a b c : World} {o : Obj} {A : Option Addr} (h : Chg lo hi a b) (hg : (b.alloc o).grownBy c (rowOf A)) (hr : ∀ k, rowOf A = some k → a.heap.size ≤ k) : Chg lo hi a c := by
  have h := h.alloc o
  exact ⟨hg.os.trans h.os, hg.tape.trans h.tape, hg.output.trans h.output, Nat.le_trans h.size hg.size, fun k hk ho => (hg.block k (Nat.lt_of_lt_of_le hk h.size) (fun e => by have := hr k e.symm; omega)).trans (h.block k hk ho)⟩
theorem Cur.grownT {a c : World} {A : Option Addr} {g L : Nat} {o1 : Obj} (h : Cur a g L) (hg : (a.alloc o1).grownBy c (rowOf A)) (hr : ∀ k, rowOf A = some k → g < k) : Cur c g L :=
  (h.below (below_new a o1)).keep fun b hb => hg.block b (by have := h.lt; simp; omega) (fun e => by have := hr b e.symm; omega)

/-- A drawn matrix: its rows, of 1 to 3 numbers. -/
def GrR (R : List (List Int)) : Prop := 1 ≤ R.length ∧ R.length ≤ 8 ∧ ∀ t, t < R.length → 1 ≤ (R[t]?.getD []).length ∧ (R[t]?.getD []).length ≤ 4
def DGr (g L : Nat) (w : World) (e : Ending) (w' : World) : Prop := ∃ (A : Option Addr) (n c : Nat) (R : List (List Int)), e = .returned (.slice A n c) ∧ R.length = n ∧ 1 ≤ n ∧ n ≤ 3 ∧ (∀ t, t < n → 1 ≤ (R[t]?.getD []).length ∧ (R[t]?.getD []).length ≤ 3) ∧ OwnII w' w.heap.size w'.heap.size A n c (fun t => R[t]?.getD []) ∧ Cur w' g L ∧ Chg g (g + 1) w w'

set_option maxRecDepth 100000 in
set_option maxHeartbeats 4000000 in
theorem grid_any (g L : Nat) (w : World) (h : Cur w g L) (hL : L ≤ 300000) :
    Calls Try.prog 80 #[.pointer (some ⟨g, 0, none⟩)] w (DGr g (L + 30) w) := by
  have hlt := h.lt
  go_enter Try.func80, Try.ntmps80
  go_wp2_with fail
  refine (pick_any g L 3 w h (by omega) (by omega)).mono ?_
  rintro e w1 ⟨v, rfl, hv0, hv1, hc1, hg1⟩
  have hv1 : v ≤ 2 := by simpa using hv1
  obtain ⟨kv, rfl⟩ := Int.eq_ofNat_of_zero_le hv0
  clear h
  go_wp2_with fail
  refine (pick_any g _ 3 w1 hc1 (by omega) (by omega)).mono ?_
  rintro e w2 ⟨u, rfl, hu0, hu1, hc2, hg2⟩
  have hu1 : u ≤ 2 := by simpa using hu1
  obtain ⟨ku, rfl⟩ := Int.eq_ofNat_of_zero_le hu0
  have hG2 := hg1.trans hg2
  clear hc1 hg1 hg2
  obtain ⟨m, hm⟩ : ∃ m, m = kv + 1 := ⟨_, rfl⟩
  obtain ⟨n, hn⟩ : ∃ n, n = ku + 1 := ⟨_, rfl⟩
  have em : (1 : Int) + (kv : Int) = (m : Int) := by omega
  have en : (1 : Int) + (ku : Int) = (n : Int) := by omega
  have hm3 : m ≤ 3 := by omega
  have hn3 : n ≤ 3 := by omega
  have hm1 : 1 ≤ m := by omega
  have hn1 : 1 ≤ n := by omega
  have EM := Lib.hid em
  have EN := Lib.hid en
  have HC := Lib.hid hc2
  have HG := Lib.hid hG2
  clear hv0 hv1 hu0 hu1 hm hn em en hc2 hG2
  go_wp2
  rw [EM.out, EN.out]
  clear EM EN
  go_loopw [5, 6] (fun a i wr => ∃ (k : Nat) (D : Option Addr) (cD : Nat) (R : List (List Int)), k ≤ m ∧ i = .int .i64 k ∧ a = .slice D k cD ∧ R.length = k ∧ Hid (∀ t, t < k → 1 ≤ (R[t]?.getD []).length ∧ (R[t]?.getD []).length ≤ 3) ∧ Hid (OwnII wr w.heap.size wr.heap.size D k cD (fun t => R[t]?.getD [])) ∧ Hid (Cur wr g (L + 4 + 6 * k)) ∧ Hid (Chg g (g + 1) w wr)) (fun _ i _ => m - (intOf i).toNat)
  case atStart => exact ⟨0, none, 0, [], Nat.zero_le _, rfl, rfl, rfl, Lib.hid (fun t h => by omega), Lib.hid OwnII.nil_, Lib.hid (HC.out.mono (by omega)), HG⟩
  case round =>
    clear HC HG
    obtain ⟨k, D, cD, R, hk, rfl, rfl, hRl, HR, HO, HC, HG⟩ := hrel
    obtain ⟨wo, rfl⟩ : ∃ wo : World, wo = wr := ⟨_, rfl⟩
    have zo := HG.out.size
    by_cases hlt2 : k < m
    case pos =>
      go_wp2
      go_loopw [7, 8] (fun a i wr => ∃ (q : Nat) (E : Option Addr) (cE : Nat) (r : List Int), q ≤ n ∧ i = .int .i64 q ∧ a = .slice E q cE ∧ Hid (r.length = q) ∧ Hid (Own wr wo.heap.size E q cE r) ∧ Hid (OwnII wr w.heap.size wo.heap.size D k cD (fun t => R[t]?.getD [])) ∧ Hid (Cur wr g (L + 4 + 6 * k + 2 * q)) ∧ Hid (Chg g (g + 1) wo wr)) (fun _ i _ => n - (intOf i).toNat)
      case atStart => exact ⟨0, none, 0, [], Nat.zero_le _, rfl, rfl, Lib.hid rfl, Lib.hid Own.nil_, HO, Lib.hid (HC.out.mono (by omega)), Lib.hid (Chg.refl _ _ _)⟩
      case round =>
        clear HC HO
        obtain ⟨q, E, cE, r, hq, rfl, rfl, Hr, HE, HO, HC, HW⟩ := hrel
        have zr := HW.out.size
        by_cases hlq : q < n
        case pos =>
          go_wp2_with fail
          refine (pick_any g _ 14 wr HC.out (by omega) (by omega)).mono ?_
          rintro e w5 ⟨u, rfl, _, _, hc5, hg5⟩
          have z5 := hg5.size
          have HE5 : Hid (Own w5 wo.heap.size E q cE r) := Lib.hid (HE.out.keep fun b hb hl => hg5.block b hl (by have := (HE.out.row_ge b (by rw [hb]; rfl)).1; omega))
          have HO5 := Lib.hid (HO.out.chg hg5 (by omega))
          have HW5 := Lib.hid (HW.out.trans hg5)
          have HC5 := Lib.hid hc5
          clear HC HO HE HW hc5 hg5
          go_wp2_with (at_builtin; refine wp_app1 rfl _ _ rfl wo.heap.size E q cE _ rfl HE5.out _ rfl rfl (by omega) (by omega) ?_; intro A3 c4 w6 hown2 hg2 _)
          have HE6 := Lib.hid hown2
          have hrow : ∀ j, rowOf E = some j → wo.heap.size ≤ j := fun j hj => (HE5.out.row_ge j hj).1
          have HC6 := Lib.hid (cur_app HC5.out hg2 (fun j hj => by have := hrow j hj; omega))
          have HW6 := Lib.hid (chg_app HW5.out hg2 hrow)
          have HO6 : Hid (OwnII w6 w.heap.size wo.heap.size D k cD (fun t => R[t]?.getD [])) := Lib.hid (HO5.out.keep fun b h1 h2 h3 => hg2.block b h3 (fun e => by have := hrow b e.symm; omega))
          have Hr6 : Hid ((r ++ [u]).length = q + 1) := Lib.hid (by rw [List.length_append, Hr.out]; rfl)
          clear hown2 hg2 hrow HE5 HO5 HW5 HC5 Hr
          go_roundw
          case rel => exact ⟨q + 1, A3, c4, _, by omega, by go_num, rfl, Hr6, HE6, HO6, Lib.hid (HC6.out.mono (by omega)), HW6⟩
          case measure => simp [intOf]; omega
        case neg =>
          obtain rfl : n = q := by omega
          obtain ⟨gE, rfl, gE1, gE2⟩ := HE.out.head (by omega)
          obtain ⟨ys, ho, hlo, hnext⟩ := HO.out.more hRl (HE.out.mono zo) Hr.out (by omega) gE1 (by omega)
          have HN := Lib.hid hnext
          have HL := Lib.hid hlo
          have Ho := Lib.hid ho
          clear hnext hlo ho HO
          go_wp2_with (at_builtin; refine wp_appII1 rfl _ _ rfl w.heap.size D k cD ys rfl Ho.out _ rfl rfl rfl (by omega) (by omega) ?_; intro D6 c6 w6 hown6 hg6)
          have HO6 := Lib.hid (HN.out w6 D6 c6 hown6 hg6)
          have HG6 := Lib.hid ((HG.out.trans HW.out).grownT hg6 HL.out)
          have HC6 := Lib.hid (HC.out.grownT hg6 (fun q hq => by have := HL.out q hq; omega))
          have HR6 : Hid (∀ t, t < k + 1 → 1 ≤ ((R ++ [r])[t]?.getD []).length ∧ ((R ++ [r])[t]?.getD []).length ≤ 3) := Lib.hid (fun t ht => by
            rcases Nat.lt_or_ge t k with h | h
            · rw [List.getElem?_append_left (by omega)]; exact HR.out t h
            · rw [List.getElem?_append_right (by omega), hRl, show t - k = 0 by omega]
              show 1 ≤ r.length ∧ r.length ≤ 3
              rw [Hr.out]; omega)
          clear hown6 hg6 HN HL HG HW HC HE Hr
          go_roundw
          case rel => exact ⟨k + 1, D6, c6, R ++ [r], by omega, by go_num, rfl, by simp [hRl], HR6, HO6, Lib.hid (HC6.out.mono (by omega)), HG6⟩
          case measure => simp [intOf]; omega
    case neg =>
      obtain rfl : m = k := by omega
      go_wp2
      go_ret
      exact ⟨D, m, cD, R, rfl, hRl, hm1, hm3, HR.out, HO.out, HC.out.mono (by omega), HG.out⟩
end Go.Proofs.Ytcjmapdeopffcaa
