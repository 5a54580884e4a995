/- Tables: crossed variables, counts of cells, the tests; printed by gtc.py. -/
import Derived.Test.YtfanpbfmnckmnaaGreatTblA
namespace Go.Proofs.YtfanpbfmnckmnaaGreat
open Go.RowKit

theorem partL_atN {vs : List (ByteArray × Int)} {us : List Int} {k i : Nat} (h : i < k) : vN (partL vs us k) i = vN vs (ix us i) := by simp [partL, vN, h]
theorem row_mono2 {w : World} {n : Nat} {lo : Nat} {T : TypeId} {sz : Nat} {v : Value} {ys : List Value} {lo' : Nat} (h : w.ownsRow lo T sz v n ys) (hl : lo' ≤ lo) : w.ownsRow lo' T sz v n ys := ⟨h.1, by
  rcases h.2 with h0 | ⟨g, cap, cur, hv, hb, hr⟩
  · exact .inl h0
  · exact .inr ⟨g, cap, cur, hv, by omega, hr⟩⟩
theorem cnt_bd {a : Nat} {b : Int} (ha : a ≤ 30) (h0 : 1 ≤ b) (h1 : b ≤ 262144) : 0 ≤ (a : Int) * b ∧ (a : Int) * b ≤ 7864320 := by
  have e1 : 0 ≤ (a : Int) * b := Int.mul_nonneg (by omega) (by omega)
  have e2 : (a : Int) * b ≤ 30 * 262144 := Int.mul_le_mul (by omega) h1 (by omega) (by omega)
  omega
theorem risB_lenD {xs : List Int} {n : Nat} {vs : List (ByteArray × Int)} (h : vs.length = n) (h2 : risB xs n = false) : risB xs vs.length = false := by rw [h]; exact h2

set_option maxRecDepth 100000 in
set_option maxHeartbeats 2000000 in
theorem crossed_any (A V U : Option Addr) (n c m d k e : Nat) (t : TabD) (vs : List (ByteArray × Int)) (w : World) (hx : SchR w A n c vs) (ht : TabR w V m U k t) (hk : PartOk vs t.vars n) :
    Calls Tryz.prog 183 #[.slice A n c, .agg #[.int .i64 t.lv, .slice V m d, .slice U k e, .int .i64 t.sum]] w fun e w' => ∃ A' c', e = .returned (.slice A' m c') ∧ OwnV w' w.heap.size w'.heap.size A' m c' (partL vs t.vars m) ∧ Below w.heap.size w w' := by
  have hl := Lib.hid ht.v.len
  have hl6 : m ≤ 6 := by have := hk.six; rw [hl.out] at this; exact this
  obtain ⟨i0, hi, hz0, hz1, hz2⟩ := info_parts Tryz.infoVariable
  have b0 := below_new w (.cells #[.int .i64 t.lv, .slice V m d, .slice U k e, .int .i64 t.sum] 56)
  have x0 := box_new w #[.int .i64 t.lv, .slice V m d, .slice U k e, .int .i64 t.sum] 56
  have X0 := Lib.hid x0
  have HX := Lib.hid (hx.below b0)
  have HU := Lib.hid (ht.v.below b0)
  have HB := Lib.hid b0
  have c1 := box_cell x0 1 _ rfl
  have l0 := lt_of_block x0
  clear hx ht b0 x0
  go_enter Tryz.func183, Tryz.ntmps183
  obtain ⟨w0, hw0⟩ : ∃ x, w.alloc (.cells #[.int .i64 t.lv, .slice V m d, .slice U k e, .int .i64 t.sum] 56) = x := ⟨_, rfl⟩
  have HW0 := Lib.hid hw0
  rw [hw0] at X0 HX HU HB c1 l0
  clear hw0
  go_wp2_with (at_make; rw [HW0.out]; refine wpList_make_full _ rfl _ _ 37 rfl w0.heap.size 133 i0 _ 2 Tryz.underlying37 hi hz0 hz1 .i64 .i64 _ _ m rfl rfl rfl rfl (by rw [hz2]; omega) (by unfold maxLen; omega) (Nat.le_refl _) ?_; intro w1 hown hg; have hb1 : Below w0.heap.size w0 w1 := (Below.refl _ _).grown hg (Nat.le_refl _) (by simp); have x1 := box_below X0.out hb1; have hs1 := hb1.size; clear c1; have c1 := box_cell x1 1 _ rfl; have l1 := lt_of_block x1)
  have hA : AgreeV (partL vs t.vars m) (madeCells (Value.agg #[.string ByteArray.empty, .int .i64 0]).cells (m * 2)).toList m 0 := ⟨hown.1, fun t ht => absurd ht (by omega)⟩
  generalize (madeCells (Value.agg #[.string ByteArray.empty, .int .i64 0]).cells (m * 2)).toList = y0 at *
  clear hg hi hz0 hz1 hz2 c1 x1 l1 X0
  go_loopw [15] (fun i wr => ∃ (j : Nat) (ys : List Value), j ≤ m ∧ i = .int .i64 j ∧ AgreeV (partL vs t.vars m) ys m j ∧ wr.ownsRow w0.heap.size 133 2 (.slice (some ⟨w0.heap.size, 0, none⟩) m m) m ys ∧ Below w0.heap.size w0 wr) (fun i _ => m - (intOf i).toNat)
  case atStart => exact ⟨0, _, Nat.zero_le _, rfl, hA, hown, hb1⟩
  case round =>
    clear hA hown hb1
    obtain ⟨j, ys, hj, rfl, hag, hown, hbw⟩ := hrel
    have s0 := HB.out.size
    by_cases hlt : j < m
    · have hju : j < t.vars.length := by rw [hl.out]; exact hlt
      obtain ⟨hi1, hi2⟩ := hk.ix_lt hju
      obtain ⟨au, rfl, hcu⟩ := (HU.out.below hbw).i.at_ hlt
      obtain ⟨asv, rfl, hcn, hcs⟩ := (HX.out.below hbw).v.at_ hi1
      rw [hi2] at hcu
      have R1 := Lib.hid (hag.step (partL_len vs t.vars m) hlt)
      rw [partL_atN hlt, partL_at hlt] at R1
      generalize ix t.vars j = q at *
      generalize vL vs q = L at *
      generalize vN vs q = s at *
      obtain ⟨⟨u0, hu0⟩, ⟨u1, hu1⟩, hf0, hf1⟩ := row_two hown hlt
      have HO := Lib.hid hown
      have HW := Lib.hid hbw
      clear hi2 hju hag hown hbw
      go_wp2
      go_roundw
      case rel => exact ⟨j + 1, _, by omega, by go_num, R1.out, (World.ownsRow.stored (World.ownsRow.stored HO.out (j * 2) (.string s)).1 (j * 2 + 1) (.int .i64 L)).1, (HW.out.setCell (Nat.le_refl _) _).setCell (Nat.le_refl _) _⟩
      case measure => simp [intOf]; omega
    · have R := hag.fin (partL_len vs t.vars m) (by omega)
      subst R
      have HO := Lib.hid hown
      have HW := Lib.hid hbw
      clear hag hown hbw
      go_wp2
      go_ret
      exact ⟨_, _, rfl, ⟨row_mono2 HO.out s0, fun g hg => (World.ownsRow.lt HO.out g (by simpa [rowOf, Value.ownBlock] using hg)).2, by omega⟩, HB.out.trans (HW.out.mono s0)⟩

set_option maxRecDepth 100000 in
set_option maxHeartbeats 2000000 in
theorem combinations_any (A : Option Addr) (n c l : Nat) (vs : List (ByteArray × Int)) (us : List Int) (w : World) (hx : VarsR w A l (partL vs us l)) (hl : us.length = l) (hk : PartOk vs us n) :
    Calls Tryz.prog 182 #[.slice A l c] w fun e w' => e = .returned (.int .i64 (prodN vs us l)) ∧ Below w.heap.size w w' := by
  have hl' := Lib.hid hl
  have hl6 : l ≤ 6 := by have := hk.six; rw [hl] at this; exact this
  clear hl
  have HX := Lib.hid hx
  clear hx
  go_enter Tryz.func182, Tryz.ntmps182
  go_wp2
  go_loopw [3, 8] (fun a i wr => ∃ j : Nat, j ≤ l ∧ i = .int .i64 j ∧ a = .int .i64 (prodN vs us j) ∧ Below w.heap.size w wr) (fun _ i _ => l - (intOf i).toNat)
  case atStart => exact ⟨0, Nat.zero_le _, rfl, rfl, Below.refl _ _⟩
  case round =>
    obtain ⟨j, hj, rfl, rfl, hbw⟩ := hrel
    by_cases hlt : j < l
    · have hju : j < us.length := by rw [hl'.out]; exact hlt
      obtain ⟨hs1, hs2⟩ := hk.step hju
      have ha := hk.at_ hju
      obtain ⟨asv, rfl, hcn, hcs⟩ := (HX.out.below hbw).at_ hlt
      rw [partL_at hlt] at hcs
      have R := Lib.hid (show prodN vs us j * vL vs (ix us j) = prodN vs us (j + 1) from rfl)
      generalize vL vs (ix us j) = L at *
      generalize prodN vs us j = a at *
      generalize vN (partL vs us l) j = s at *
      have hb2 := Lib.hid (hbw.alloc hbw.size (.cells #[.string s, .int .i64 L] 133))
      clear hbw hju
      go_wp2
      rw [R.out]
      go_roundw
      case rel => exact ⟨j + 1, by omega, by go_num, rfl, hb2.out⟩
      case measure => simp [intOf]; omega
    · obtain rfl : j = l := by omega
      go_wp2
      go_ret
      exact ⟨rfl, hbw⟩

set_option maxRecDepth 100000 in
set_option maxHeartbeats 2000000 in
theorem indexOfValues_any (A V : Option Addr) (n c l d : Nat) (vs : List (ByteArray × Int)) (xs us : List Int) (w : World) (hx : VarsR w A l (partL vs us l)) (hy : Ints w V l (pickL xs us l)) (hl : us.length = l) (hk : KeyOk vs xs us n) :
    Calls Tryz.prog 213 #[.slice A l c, .slice V l d] w fun e w' => e = .returned (.int .i64 (keyV vs xs us)) ∧ w = w' := by
  have hl' := Lib.hid hl
  have hl6 : l ≤ 6 := by have := hk.six; rw [hl] at this; exact this
  clear hl
  have HX := Lib.hid hx
  have HY := Lib.hid hy
  clear hx hy
  go_enter Tryz.func213, Tryz.ntmps213
  go_wp2
  go_loop [5, 10] (fun a i => ∃ j : Nat, j ≤ l ∧ i = .int .i64 j ∧ a = .int .i64 (keyN vs xs us j)) (fun _ i => l - (intOf i).toNat)
  case atStart => exact ⟨0, Nat.zero_le _, rfl, rfl⟩
  case round =>
    obtain ⟨j, hj, rfl, rfl⟩ := hrel
    by_cases hlt : j < l
    · have hju : j < us.length := by rw [hl'.out]; exact hlt
      obtain ⟨hs1, hs2⟩ := hk.step hju
      have ha := hk.at_ hju
      obtain ⟨asv, rfl, hcn, hcs⟩ := HX.out.at_ hlt
      obtain ⟨av, rfl, hcv⟩ := HY.out.at_ hlt
      rw [partL_at hlt] at hcs
      rw [pickL_at hlt] at hcv
      have R := Lib.hid (show keyN vs xs us j * vL vs (ix us j) + xs[ix us j]?.getD 0 = keyN vs xs us (j + 1) from rfl)
      generalize vL vs (ix us j) = L at *
      generalize xs[ix us j]?.getD 0 = v at *
      generalize keyN vs xs us j = a at *
      obtain ⟨p, hp⟩ : ∃ p, a * L = p := ⟨_, rfl⟩
      rw [hp] at hs2 R
      have hw1 : IntKind.i64.wrap (a * L) = p := by rw [hp]; exact IntWalk.i64_in _ (by omega)
      have hw2 : IntKind.i64.wrap (p + v) = p + v := IntWalk.i64_in _ (by omega)
      have HP := Lib.hid hp
      clear hju hp HX HY hcn
      go_wp2
      try rw [HP.out]
      rw [R.out]
      go_round
      case rel => exact ⟨j + 1, by omega, by go_num, rfl⟩
      case measure => simp [intOf]; omega
    · obtain rfl : j = l := by omega
      have R := Lib.hid (show keyN vs xs us j = keyV vs xs us by unfold keyV; rw [hl'.out])
      go_wp2
      go_ret
      exact ⟨ret_int R.out, rfl⟩

set_option maxRecDepth 100000 in
set_option maxHeartbeats 2000000 in
theorem cellCount_any (P A V U : Option Addr) (g cg n c m d k e : Nat) (ps : List Int) (t : TabD) (vs : List (ByteArray × Int)) (w : World) (hg : GeoOk ps g) (hX : IntR w P g ps) (hS : SchR w A n c vs) (hT : TabR w V m U k t) (hk : PartOk vs t.vars n) :
    Calls Tryz.prog 139 #[.agg #[.slice P g cg], .slice A n c, .agg #[.int .i64 t.lv, .slice V m d, .slice U k e, .int .i64 t.sum]] w fun e w' => e = .returned (.int .i64 (((lvl ps t.lv g).length : Int) * prodN vs t.vars t.vars.length)) ∧ Below w.heap.size w w' := by
  have hl := Lib.hid hT.v.len
  have HG := Lib.hid hg
  have HK := Lib.hid hk
  have hp := hk.prod
  have hlv := Nat.le_trans (lvl_len (ps := ps) (v := t.lv) g) hg.most
  obtain ⟨LN, hLN⟩ : ∃ x, (lvl ps t.lv g).length = x := ⟨_, rfl⟩
  obtain ⟨PR, hPR⟩ : ∃ x, prodN vs t.vars t.vars.length = x := ⟨_, rfl⟩
  rw [hLN] at hlv ⊢
  rw [hPR] at hp ⊢
  have HLN := Lib.hid hLN
  have HPR := Lib.hid (show prodN vs t.vars m = PR by rw [← hl.out]; exact hPR)
  have hbd := cnt_bd hlv hp.1 hp.2
  have hw1 : IntKind.i64.wrap ((LN : Int) * PR) = (LN : Int) * PR := IntWalk.i64_in _ (by omega)
  obtain ⟨b0, xg, xt⟩ := box_two w #[.slice P g cg] #[.int .i64 t.lv, .slice V m d, .slice U k e, .int .i64 t.sum] 36 56
  replace hX := hX.below b0
  replace hS := hS.below b0
  replace hT := hT.below b0
  have HB := Lib.hid b0
  clear hg hk b0 hLN hPR hp hbd
  go_enter Tryz.func139, Tryz.ntmps139
  have lg := lt_of_block xg
  have lt := lt_of_block xt
  go_wp2_with fail
  clear lg lt
  generalize (w.alloc (.cells #[.slice P g cg] 36)).alloc (.cells #[.int .i64 t.lv, .slice V m d, .slice U k e, .int .i64 t.sum] 56) = w0 at *
  have s0 := HB.out.size
  have BL := (Below.refl w0.heap.size w0).drew
  replace xg : w0.drew.heap[w.heap.size]? = _ := xg
  replace xt : w0.drew.heap[w.heap.size + 1]? = _ := xt
  have lg := lt_of_block xg
  have lt := lt_of_block xt
  go_region_held3 (fun w' => w'.cell? ⟨w.heap.size, 0, none⟩ = some (.slice P g cg) ∧ w'.cell? ⟨w.heap.size + 1, 0, none⟩ = some (.int .i64 t.lv) ∧ w'.cell? ⟨w.heap.size + 1, 1, none⟩ = some (.slice V m d) ∧ w'.cell? ⟨w.heap.size + 1, 2, none⟩ = some (.slice U k e) ∧ w'.cell? ⟨w.heap.size + 1, 3, none⟩ = some (.int .i64 t.sum)) (exact ⟨box_cell xg 0 _ rfl, box_cell xt 0 _ rfl, box_cell xt 1 _ rfl, box_cell xt 2 _ rfl, box_cell xt 3 _ rfl⟩) (first
        | (go_at_call 181; refine (areasAt_any P g cg ps t.lv _ (hX.below BL) HG.out).mono ?_; rintro e wq ⟨Aa, ca, rfl, oa, bq⟩; clear oa; rw [HLN.out]; replace xg := box_below xg bq; replace xt := box_below xt bq; (first | (replace oV := oV.below bq) | skip); replace BL := BL.trans (bq.mono BL.size); clear bq)
        | (go_at_call 183; refine (crossed_any A V U n c m d k e t vs _ (hS.below BL) (hT.below BL) HK.out).mono ?_; rintro e wq ⟨Ax, cx, rfl, oV, bq⟩; replace xg := box_below xg bq; replace xt := box_below xt bq; replace BL := BL.trans (bq.mono BL.size); clear bq)
        | (go_at_call 182; refine (combinations_any _ n _ m vs t.vars _ oV.vars hl.out HK.out).mono ?_; rintro e wq ⟨rfl, bq⟩; rw [HPR.out]; replace xg := box_below xg bq; replace xt := box_below xt bq; (first | (replace oV := oV.below bq) | skip); replace BL := BL.trans (bq.mono BL.size); clear bq))
  all_goals (go_wp2; go_ret; exact ⟨rfl, HB.out.trans (BL.mono s0)⟩)

set_option maxRecDepth 100000 in
set_option maxHeartbeats 2000000 in
theorem uCount_any (P A V U : Option Addr) (g cg n c m d k e : Nat) (ps : List Int) (t : TabD) (vs : List (ByteArray × Int)) (w : World) (hg : GeoOk ps g) (hX : IntR w P g ps) (hS : SchR w A n c vs) (hT : TabR w V m U k t) (hk : PartOk vs t.vars n) :
    Calls Tryz.prog 133 #[.agg #[.slice P g cg], .slice A n c, .agg #[.int .i64 t.lv, .slice V m d, .slice U k e, .int .i64 t.sum]] w fun e w' => e = .returned (.int .i64 (((lvl ps t.lv g).length : Int) * prodN vs t.vars t.vars.length)) ∧ Below w.heap.size w w' := by
  have hl := Lib.hid hT.v.len
  have HG := Lib.hid hg
  have HK := Lib.hid hk
  have hp := hk.prod
  have hlv := Nat.le_trans (lvl_len (ps := ps) (v := t.lv) g) hg.most
  obtain ⟨LN, hLN⟩ : ∃ x, (lvl ps t.lv g).length = x := ⟨_, rfl⟩
  obtain ⟨PR, hPR⟩ : ∃ x, prodN vs t.vars t.vars.length = x := ⟨_, rfl⟩
  rw [hLN] at hlv ⊢
  rw [hPR] at hp ⊢
  have HLN := Lib.hid hLN
  have HPR := Lib.hid (show prodN vs t.vars m = PR by rw [← hl.out]; exact hPR)
  have hbd := cnt_bd hlv hp.1 hp.2
  have hw1 : IntKind.i64.wrap ((LN : Int) * PR) = (LN : Int) * PR := IntWalk.i64_in _ (by omega)
  obtain ⟨b0, xg, xt⟩ := box_two w #[.slice P g cg] #[.int .i64 t.lv, .slice V m d, .slice U k e, .int .i64 t.sum] 36 56
  replace hX := hX.below b0
  replace hS := hS.below b0
  replace hT := hT.below b0
  have HB := Lib.hid b0
  clear hg hk b0 hLN hPR hp hbd
  go_enter Tryz.func133, Tryz.ntmps133
  have lg := lt_of_block xg
  have lt := lt_of_block xt
  go_wp2_with fail
  clear lg lt
  generalize (w.alloc (.cells #[.slice P g cg] 36)).alloc (.cells #[.int .i64 t.lv, .slice V m d, .slice U k e, .int .i64 t.sum] 56) = w0 at *
  have s0 := HB.out.size
  have BL := (Below.refl w0.heap.size w0).drew
  replace xg : w0.drew.heap[w.heap.size]? = _ := xg
  replace xt : w0.drew.heap[w.heap.size + 1]? = _ := xt
  have lg := lt_of_block xg
  have lt := lt_of_block xt
  go_region_held3 (fun w' => w'.cell? ⟨w.heap.size, 0, none⟩ = some (.slice P g cg) ∧ w'.cell? ⟨w.heap.size + 1, 0, none⟩ = some (.int .i64 t.lv) ∧ w'.cell? ⟨w.heap.size + 1, 1, none⟩ = some (.slice V m d) ∧ w'.cell? ⟨w.heap.size + 1, 2, none⟩ = some (.slice U k e) ∧ w'.cell? ⟨w.heap.size + 1, 3, none⟩ = some (.int .i64 t.sum)) (exact ⟨box_cell xg 0 _ rfl, box_cell xt 0 _ rfl, box_cell xt 1 _ rfl, box_cell xt 2 _ rfl, box_cell xt 3 _ rfl⟩) (first
        | (go_at_call 130; refine (gLevel_any P g cg ps t.lv _ (hX.below BL) HG.out).mono ?_; rintro e wq ⟨Aa, ca, rfl, oa, bq⟩; clear oa; rw [HLN.out]; replace xg := box_below xg bq; replace xt := box_below xt bq; (first | (replace oV := oV.below bq) | skip); replace BL := BL.trans (bq.mono BL.size); clear bq)
        | (go_at_call 177; refine (sPart_any A V n c m d vs t.vars _ (hS.below BL) (hT.below BL).v HK.out).mono ?_; rintro e wq ⟨Ax, cx, rfl, oV, bq⟩; replace xg := box_below xg bq; replace xt := box_below xt bq; replace BL := BL.trans (bq.mono BL.size); clear bq)
        | (go_at_call 176; refine (sCount_any _ n _ m vs t.vars _ oV.vars hl.out HK.out).mono ?_; rintro e wq ⟨rfl, bq⟩; rw [HPR.out]; replace xg := box_below xg bq; replace xt := box_below xt bq; (first | (replace oV := oV.below bq) | skip); replace BL := BL.trans (bq.mono BL.size); clear bq))
  all_goals (go_wp2; go_ret; exact ⟨rfl, HB.out.trans (BL.mono s0)⟩)
end Go.Proofs.YtfanpbfmnckmnaaGreat
