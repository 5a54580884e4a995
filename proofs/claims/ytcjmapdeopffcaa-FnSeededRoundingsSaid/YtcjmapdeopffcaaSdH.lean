/- Drawn matrices: any grid. -/
import Derived.Test.YtcjmapdeopffcaaSdG
namespace Go.Proofs.Ytcjmapdeopffcaa
open Go.RowKit Flo
set_option linter.unusedVariables false

section
variable {w w' : World} {lo hi n c i j m cv g0 g : Nat} {A : Option Addr} {L : Nat → List Int} {R : List (List Int)}
/-- A cell of a row of rows of the call's own. -/
theorem OwnII.cellAt (h : OwnII w lo hi A n c L) (hi' : i < n) (hj : j < (L i).length) : ∃ g0 g cv, A = some ⟨g0, 0, none⟩ ∧ w.cell? ⟨g0, i, none⟩ = some (.slice (some ⟨g, 0, none⟩) (L i).length cv) ∧ (∃ u : Int, w.cell? ⟨g, j, none⟩ = some (.int .i64 u)) ∧ w.frozen? ⟨g, j, none⟩ = false ∧ lo ≤ g ∧ lo ≤ g0 ∧ g < hi ∧ g0 < hi ∧ g0 < w.heap.size ∧ g < w.heap.size ∧ g ≠ g0 ∧
    ∀ v, OwnII (w.setCell ⟨g, j, none⟩ (.int .i64 v)) lo hi A n c (upd L i ((L i).set j v)) := by
  obtain ⟨g0, V, cv, rfl, h1, hV, h2, h3, h4, h5, hback⟩ := OwnII.inner h hi'
  obtain ⟨g, rfl, h6, h7, h8, h9⟩ := hV.own.at_ hj
  exact ⟨g0, g, cv, rfl, h1, ⟨_, h8⟩, h9, h6, h2, hV.top g rfl, h3, h4, h7, fun e => h5 (by rw [← e]; rfl), fun v => hback (w.setCell ⟨g, j, none⟩ (.int .i64 v)) ((L i).set j v) (by simp) (World.ownsRow.stored hV.own j _).2 hV.own.set⟩
/-- The same, where the place is known. -/
theorem OwnII.there (h : OwnII w lo hi (some ⟨g0, 0, none⟩) n c L) (hi' : i < n) (hj : j < (L i).length) (h1 : w.cell? ⟨g0, i, none⟩ = some (.slice (some ⟨g, 0, none⟩) m cv)) : (∃ u : Int, w.cell? ⟨g, j, none⟩ = some (.int .i64 u)) ∧ w.frozen? ⟨g, j, none⟩ = false ∧
    ∀ v, OwnII (w.setCell ⟨g, j, none⟩ (.int .i64 v)) lo hi (some ⟨g0, 0, none⟩) n c (upd L i ((L i).set j v)) := by
  obtain ⟨g0', g', cv', e, h1', h2, h3, _, _, _, _, _, _, _, h4⟩ := h.cellAt hi' hj
  injection e with e; injection e with e; subst e
  rw [h1] at h1'
  injection h1' with h1'; injection h1' with h1' _ _
  injection h1' with h1'; injection h1' with h1'; subst h1'
  exact ⟨h2, h3, h4⟩
/-- 'x[i] = append(x[i], ..)'. -/
theorem OwnII.appAt (h : OwnII w lo w.heap.size A n c L) (hi' : i < n) : ∃ g0 V cv, A = some ⟨g0, 0, none⟩ ∧ w.cell? ⟨g0, i, none⟩ = some (.slice V (L i).length cv) ∧ Own w lo V (L i).length cv (L i) ∧ lo ≤ g0 ∧ (∀ k, rowOf V = some k → lo ≤ k) ∧
    ∀ (w6 : World) (V6 : Option Addr) (c6 m : Nat) (l : List Int), l.length = m → m ≤ 1099511627776 → Own w6 lo V6 m c6 l → w.grownBy w6 (rowOf V) → (rowOf V6 = rowOf V ∨ rowOf V6 = some (w.heap.size + 1)) →
      (w6.cell? ⟨g0, i, none⟩ = some (.slice V (L i).length cv) ∧ w6.frozen? ⟨g0, i, none⟩ = false ∧ OwnII (w6.setCell ⟨g0, i, none⟩ (.slice V6 m c6)) lo w6.heap.size A n c (upd L i l)) := by
  obtain ⟨ys, h1, h2⟩ := h.cells
  obtain ⟨g, rfl, hlg, hgs⟩ := row_head h1 (by omega)
  obtain ⟨V, cc, e2, hV⟩ := h2.row i (Nat.zero_le _) hi'
  rw [Nat.mul_one, Nat.add_zero] at e2
  refine ⟨g, V, cc, rfl, (World.ownsRow.cellAt h1 i (by have := h1.1; omega)).trans e2, hV.own, hlg, fun k hk => (hV.row k hk).1, fun w6 V6 c6 m l hl hm ho hg hr => ?_⟩
  subst hl
  have hk := World.ownsRow.kept h1 hg (.inr (fun e => row_ne hV.own h1 (by decide) e.symm))
  obtain ⟨T1, T2⟩ := sets_step (l := l) (c2 := c6) (V2 := V6) h1 h2 hi' e2 hg ho hm (by
    rcases hr with e | e
    · exact .inr (.inl e)
    · exact .inr (.inr ⟨_, e, by omega⟩))
  exact ⟨(World.ownsRow.cellAt hk i (by have := h1.1; omega)).trans e2, World.ownsRow.frozenAt hk i, ⟨⟨_, T1, T2⟩, fun k hk' => by
    have h3 := (row_ge hk k hk').2
    exact h3, h.small⟩⟩
end
/-- The rows of a drawn matrix are short. -/
def Shrt (n : Nat) (L : Nat → List Int) : Prop := n ≤ 8 ∧ ∀ t, t < n → (L t).length ≤ 4
theorem Shrt.upd {n i : Nat} {L : Nat → List Int} {l : List Int} (h : Shrt n L) (hl : l.length ≤ 4) : Shrt n (upd L i l) := ⟨h.1, fun t ht => by
  unfold Proofs.Ytcjmapdeopffcaa.upd
  split
  · exact hl
  · exact h.2 t ht⟩
def slLen : Value → Nat
  | .slice _ n _ => n
  | _ => 0
def DAg (g L : Nat) (w : World) (e : Ending) (w' : World) : Prop := ∃ (A : Option Addr) (n c : Nat) (K : Nat → List Int), e = .returned (.slice A n c) ∧ Shrt n K ∧ OwnII w' w.heap.size w'.heap.size A n c K ∧ Cur w' g L ∧ Chg g (g + 1) w w'

set_option maxRecDepth 100000 in
set_option maxHeartbeats 4000000 in
theorem anyGrid_any (g L : Nat) (w : World) (h : Cur w g L) (hL : L ≤ 300000) :
    Calls Try.prog 47 #[.pointer (some ⟨g, 0, none⟩)] w (DAg g (L + 80) w) := by
  have hlt := h.lt
  go_enter Try.func47, Try.ntmps47
  go_wp2_with fail
  refine (grid_any g L w h (by omega)).mono ?_
  rintro e w1 ⟨A, n, c, R, rfl, hRl, hn1, hn3, hR, hO, hc1, hg1⟩
  clear h
  go_wp2_with fail
  refine (pick_any g _ 24 w1 hc1 (by omega) (by omega)).mono ?_
  rintro e w2 ⟨v, rfl, hv0, hv1, hc2, hg2⟩
  clear hv1
  have O2 := (hO.chg hg2 (.inr (by omega))).fit (Nat.le_refl _)
  have HG := Lib.hid (hg1.trans hg2)
  have HC := Lib.hid hc2
  have z2 := HG.out.size
  have HR := Lib.hid hR
  clear hO hc1 hg1 hc2 hg2 hR
  by_cases v0 : v = 0
  case pos =>
    subst v0
    obtain ⟨K, hK⟩ : ∃ K : Nat → List Int, K = fun t => R[t]?.getD [] := ⟨_, rfl⟩
    have HS : Hid (Shrt n K) := Lib.hid ⟨by omega, fun t ht => by rw [hK]; have := (HR.out t ht).2; show (R[t]?.getD []).length ≤ 4; omega⟩
    have hk0 : 1 ≤ (K 0).length := by rw [hK]; exact (HR.out 0 hn1).1
    rw [← hK] at O2
    clear hK HR
    obtain ⟨g0, gv, cv, rfl, p0, ⟨u0, p1⟩, f1, l1, l0, _, _, s0, s1, ne, _⟩ := O2.cellAt (show 0 < n by omega) (show 0 < (K 0).length by omega)
    have b9 := below_new w2 (.cells #[.int .i64 (-1), .int .i64 10000, .int .i64 10001] 3)
    have x9 := box_new w2 #[.int .i64 (-1), .int .i64 10000, .int .i64 10001] 3
    have o9 := own_lit [-1, 10000, 10001] x9 (by decide)
    have c9 := HC.out.below b9
    have HG9 := Lib.hid (HG.out.alloc (.cells #[.int .i64 (-1), .int .i64 10000, .int .i64 10001] 3))
    have r9 : (w2.alloc (.cells #[.int .i64 (-1), .int .i64 10000, .int .i64 10001] 3)).cell? ⟨g0, 0, none⟩ = some (.slice (some ⟨gv, 0, none⟩) (K 0).length cv) := (b9.cell (block_lt_of_cell p0)).trans p0
    have H9 := Lib.hid (fun (q : World) (hc : Cur q g (L + 34)) (hq : Chg g (g + 1) (w2.alloc (.cells #[.int .i64 (-1), .int .i64 10000, .int .i64 10001] 3)) q) => (show (q.cell? ⟨g0, 0, none⟩ = some (.slice (some ⟨gv, 0, none⟩) (K 0).length cv)) ∧ ((∃ u, q.cell? ⟨gv, 0, none⟩ = some u) ∧ q.frozen? ⟨gv, 0, none⟩ = false) ∧ ∀ x : Int, (q.setCell ⟨gv, 0, none⟩ (.int .i64 x)).cell? ⟨g0, 0, none⟩ = some (.slice (some ⟨gv, 0, none⟩) (K 0).length cv) ∧ (OwnII (q.setCell ⟨gv, 0, none⟩ (.int .i64 x)) w.heap.size (q.setCell ⟨gv, 0, none⟩ (.int .i64 x)).heap.size (some ⟨g0, 0, none⟩) n c (upd K 0 ((K 0).set 0 x)) ∧ Cur (q.setCell ⟨gv, 0, none⟩ (.int .i64 x)) g (L + 34) ∧ Chg g (g + 1) w (q.setCell ⟨gv, 0, none⟩ (.int .i64 x))) from by
      have hO := (O2.below b9).chg hq (.inr (by omega))
      have hr := (World.cell?_of_block (hq.block g0 (block_lt_of_cell r9) (by omega))).trans r9
      obtain ⟨⟨u, q1⟩, q2, q3⟩ := hO.there (show 0 < n by omega) (show 0 < (K 0).length by omega) hr
      refine ⟨hr, ⟨⟨_, q1⟩, q2⟩, fun x => ⟨(World.cell?_setCell_other _ _ _ _ (fun e => ne (by have := congrArg Addr.block e; exact this))).trans hr, (q3 x).fit (Nat.le_refl _), hc.far (by show g < gv; omega) _, (HG9.out.trans hq).setNewD (by show w.heap.size ≤ gv; omega) _⟩⟩))
    have i1 : 0 < n := by omega
    have i2 : 0 < (K 0).length := by omega
    go_wp2_with fail
    go_region_held3 (fun w' => w'.cell? ⟨g0, 0, none⟩ = some (.slice (some ⟨gv, 0, none⟩) (K 0).length cv)) (first | exact p0 | exact r9 | exact q1 | exact q4 | go_keep) ((skip; (go_at_call 81; refine (among_any g _ _ _ _ _ _ (-1) (10001) [-1, 10000, 10001] _ (by exact c9) (by omega) (by first | exact o9 | exact o9.drew) (by omega) (by decide) (by decide) (by decide)).mono ?_; rintro e w30 ⟨y, rfl, y0, y1, hc30, hg30⟩; replace hg30 : Chg g (g + 1) (w2.alloc (.cells #[.int .i64 (-1), .int .i64 10000, .int .i64 10001] 3)) w30 := (by first | exact hg30 | exact (Chg.of_below (Below.refl _ _).drew).trans hg30); obtain ⟨q1, q2, q3⟩ := H9.out w30 (hc30.mono (by omega)) hg30; obtain ⟨⟨u, hu⟩, hf⟩ := q2; obtain ⟨q4, q5⟩ := q3 y; have N30 := Lib.hid q5; clear q3 q5)))
    all_goals (
      obtain ⟨n1, n2, n3⟩ := N30.out
      have HN1 := Lib.hid n1
      have HN2 := Lib.hid n2
      have HN3 := Lib.hid n3
      have hk4 : ((K 0).set 0 y).length ≤ 4 := by rw [List.length_set]; exact HS.out.2 0 (by omega)
      clear n1 n2 n3 N30 O2 p0 p1 f1 b9 x9 o9 c9 HG9 r9 H9 q1 q4 hu hf hg30 hc30
      go_wp2
      go_ret
      exact ⟨_, n, c, _, rfl, HS.out.upd hk4, HN1.out, HN2.out.mono (by omega), HN3.out⟩)
  case neg =>
    have v0E : (v == 0) = false := by rw [beq_eq_false_iff_ne]; exact v0
    by_cases v1 : v = 1
    case pos =>
      subst v1
      obtain ⟨K, hK⟩ : ∃ K : Nat → List Int, K = fun t => R[t]?.getD [] := ⟨_, rfl⟩
      have HS : Hid (Shrt n K) := Lib.hid ⟨by omega, fun t ht => by rw [hK]; have := (HR.out t ht).2; show (R[t]?.getD []).length ≤ 4; omega⟩
      have hk0 : (K 0).length ≤ 3 := by rw [hK]; exact (HR.out 0 hn1).2
      rw [← hK] at O2
      clear hK HR
      obtain ⟨g0, V, cv, rfl, p0, oV, l0, lV, hback⟩ := O2.appAt (show 0 < n by omega)
      have HBK := Lib.hid hback
      have OV := Lib.hid oV
      have LV := Lib.hid lV
      obtain ⟨K0, hK0⟩ : ∃ K0, K 0 = K0 := ⟨_, rfl⟩
      rw [hK0] at hk0 p0 OV HBK
      obtain ⟨k0, hk⟩ : ∃ k0, K0.length = k0 := ⟨_, rfl⟩
      rw [hk] at hk0 p0 OV HBK
      have HL1 : Hid ((K0 ++ [(1 : Int)]).length = k0 + 1) := Lib.hid (by simp [hk])
      have i1 : 0 < n := by omega
      clear hback oV lV O2 hK0 hk
      go_wp2_with (at_builtin; refine wp_app1 (v := 1) rfl _ _ rfl w.heap.size V k0 cv K0 rfl OV.out _ rfl rfl (by omega) (by omega) ?_; intro A6 c6 w6 hown6 hg6 hr6; have HH := Lib.hid (HBK.out w6 A6 c6 _ _ HL1.out (by omega) hown6 hg6 hr6); have hx1 := HH.out.1; have hx2 := HH.out.2.1; have HG6 := Lib.hid (chg_app HG.out hg6 LV.out); have HC6 := Lib.hid (cur_app HC.out hg6 (fun j hj => by have := LV.out j hj; omega)); have hg6' := hg6.size; clear hown6 hg6 hr6)
      have HO7 := Lib.hid (HH.out.2.2.fit (w := w6.setCell ⟨g0, 0, none⟩ (.slice A6 (k0 + 1) c6)) (Nat.le_refl _))
      have HG7 := Lib.hid (HG6.out.setNewD (p := ⟨g0, 0, none⟩) (show w.heap.size ≤ g0 by omega) (.slice A6 (k0 + 1) c6))
      have HC7 := Lib.hid (HC6.out.far (p := ⟨g0, 0, none⟩) (show g < g0 by omega) (.slice A6 (k0 + 1) c6))
      have HS7 := Lib.hid (HS.out.upd (i := 0) (l := K0 ++ [(1 : Int)]) (by rw [HL1.out]; omega))
      clear HH HG6 HC6 hx1 hx2 HBK p0
      go_wp2
      go_ret
      exact ⟨_, n, c, _, rfl, HS7.out, HO7.out, HC7.out.mono (by omega), HG7.out⟩
    case neg =>
      have v1E : (v == 1) = false := by rw [beq_eq_false_iff_ne]; exact v1
      by_cases v2 : v = 2
      case pos =>
        subst v2
        clear O2 HR
        go_wp2
        go_ret
        exact ⟨none, 0, 0, fun _ => [], rfl, ⟨by omega, fun t ht => by omega⟩, OwnII.nil_, HC.out.mono (by omega), HG.out⟩
      case neg =>
        have v2E : (v == 2) = false := by rw [beq_eq_false_iff_ne]; exact v2
        by_cases v3 : v = 3
        case pos =>
          subst v3
          have HO := Lib.hid O2
          clear O2
          go_wp2_with fail
          go_loopw [3] (fun a wr => ∃ (k : Nat) (D : Option Addr) (cD : Nat) (R : List (List Int)), a = .slice D k cD ∧ R.length = k ∧ 1 ≤ k ∧ k ≤ 8 ∧ Hid (∀ t, t < k → 1 ≤ (R[t]?.getD []).length ∧ (R[t]?.getD []).length ≤ 3) ∧ Hid (OwnII wr w.heap.size wr.heap.size D k cD (fun t => R[t]?.getD [])) ∧ Hid (Cur wr g (L + 32 + 2 * k)) ∧ Hid (Chg g (g + 1) w wr)) (fun a _ => 9 - slLen a)
          case atStart => exact ⟨n, A, c, R, rfl, hRl, hn1, by omega, HR, HO, Lib.hid (HC.out.mono (by omega)), HG⟩
          case round =>
            clear HO HC HG HR hRl hn1 hn3 z2
            obtain ⟨k, D, cD, R, rfl, hRl, hk1, hk8, HR, HO, HC, HG⟩ := hrel
            go_wp2_with fail
            refine (pick_any g _ 2 wr HC.out (by omega) (by omega)).mono ?_
            rintro e w4 ⟨u, rfl, hu0, hu1, hc4, hg4⟩
            have hu1' : u ≤ 1 := by simpa using hu1
            clear hu1
            have HO4 := Lib.hid ((HO.out.chg hg4 (.inr (by omega))).fit (Nat.le_refl _))
            have HG4 := Lib.hid (HG.out.trans hg4)
            have HC4 := Lib.hid hc4
            have z4 := HG4.out.size
            clear HO HG HC hc4 hg4
            by_cases hgo : (k : Int) < 7 + u
            case pos =>
              have hk7 : k ≤ 7 := by omega
              obtain ⟨ad, rfl, V, cv, p0, hv⟩ := HO4.out.read.at_ (show 0 < k by omega)
              have p0 : w4.cell? ad = some (.slice V (R[0]?.getD []).length cv) := by simpa [Addr.add] using p0
              have HV := Lib.hid hv
              have hr0 := HR.out 0 (by omega)
              obtain ⟨r, hr⟩ : ∃ r, R[0]?.getD [] = r := ⟨_, rfl⟩
              have HV : Hid (Ints w4 V (R[0]?.getD []).length (R[0]?.getD [])) := HV
              rw [hr] at HV hr0 p0
              obtain ⟨m, hm⟩ : ∃ m, r.length = m := ⟨_, rfl⟩
              rw [hm] at HV hr0 p0
              have HM := Lib.hid hm
              have i1 : 0 < k := by omega
              clear hv hr hm
              go_wp2_with fail
              refine (l1Own_any V m cv r _ HV.out (by omega)).mono ?_
              rintro e w5 ⟨V5, c5, rfl, o5, b5⟩
              obtain ⟨g5, rfl, _, _⟩ := o5.own.head (by omega)
              have s5 := b5.size
              obtain ⟨ys, ho, hlo, hnext⟩ := (HO4.out.below b5).more hRl (o5.own.mono z4) HM.out (by omega) (by omega) (by omega)
              have HN := Lib.hid hnext
              have HL := Lib.hid hlo
              have Ho := Lib.hid ho
              have HG5 := Lib.hid (HG4.out.then_ b5)
              have HC5 := Lib.hid (HC4.out.below b5)
              clear hnext hlo ho HO4 o5 b5 p0
              go_wp2_with (at_builtin; refine wp_appII1 rfl _ _ rfl w.heap.size _ k cD ys rfl Ho.out _ rfl rfl rfl (by omega) (by omega) ?_; intro D6 c6 w6 hown6 hg6)
              have HO6 := Lib.hid (HN.out w6 D6 c6 hown6 hg6)
              have HG6 := Lib.hid (HG5.out.grownT hg6 HL.out)
              have HC6 := Lib.hid (HC5.out.grownT hg6 (fun q hq => by have := HL.out q hq; omega))
              have HR6 : Hid (∀ t, t < k + 1 → 1 ≤ ((R ++ [r])[t]?.getD []).length ∧ ((R ++ [r])[t]?.getD []).length ≤ 3) := Lib.hid (fun t ht => by
                rcases Nat.lt_or_ge t k with h | h
                · rw [List.getElem?_append_left (by omega)]; exact HR.out t h
                · rw [List.getElem?_append_right (by omega), hRl, show t - k = 0 by omega]
                  show 1 ≤ r.length ∧ r.length ≤ 3
                  rw [HM.out]; omega)
              clear hown6 hg6 HN HL HG5 HC5 HM
              go_roundw
              case rel => exact ⟨k + 1, D6, c6, R ++ [r], rfl, by simp [hRl], by omega, by omega, HR6, HO6, Lib.hid (HC6.out.mono (by omega)), HG6⟩
              case measure => simp [slLen]; omega
            case neg =>
              go_wp2
              go_ret
              exact ⟨D, k, cD, _, rfl, ⟨hk8, fun t ht => by have := (HR.out t ht).2; show (R[t]?.getD []).length ≤ 4; omega⟩, HO4.out, HC4.out.mono (by omega), HG4.out⟩
        case neg =>
          have v3E : (v == 3) = false := by rw [beq_eq_false_iff_ne]; exact v3
          have HO := Lib.hid O2
          clear O2
          go_wp2
          go_ret
          exact ⟨A, n, c, _, rfl, ⟨by omega, fun t ht => by have := (HR.out t ht).2; show (R[t]?.getD []).length ≤ 4; omega⟩, HO.out, HC.out.mono (by omega), HG.out⟩
end Go.Proofs.Ytcjmapdeopffcaa
