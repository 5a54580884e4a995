/- Several small texts in one: PuF, PuG. -/
import Derived.Test.YtcjmapdeopffcaaPuE
import Derived.BigQuiet
import Derived.Laws.CopyOwn
namespace Go.Proofs.Ytcjmapdeopffcaa

section
open Go.RowKit Flo
set_option linter.unusedVariables false

/-- A matrix that is written in order. -/
def resM (x y : Nat → Nat → Int) (i j u v : Nat) : Int := if u < i ∨ (u = i ∧ v < j) then y u v else x u v
theorem resM_step {x y : Nat → Nat → Int} {i j : Nat} (u v : Nat) : updM (resM x y i j) i j (y i j) u v = resM x y i (j + 1) u v := by
  unfold updM resM
  by_cases h : u = i ∧ v = j
  · rw [if_pos h, if_pos (by omega), h.1, h.2]
  · rw [if_neg h]
    by_cases h2 : u < i ∨ (u = i ∧ v < j)
    · rw [if_pos h2, if_pos (by omega)]
    · rw [if_neg h2, if_neg (by omega)]
theorem resM_start {x y : Nat → Nat → Int} {u v : Nat} : resM x y 0 0 u v = x u v := by
  unfold resM
  rw [if_neg (by omega)]
theorem resM_row {x y : Nat → Nat → Int} {i m u v : Nat} (hv : v < m) : resM x y i m u v = resM x y (i + 1) 0 u v := by
  unfold resM
  by_cases h : u < i ∨ (u = i ∧ v < m)
  · rw [if_pos h, if_pos (by omega)]
  · rw [if_neg h, if_neg (by omega)]
theorem resM_end {x y : Nat → Nat → Int} {n u v : Nat} (hu : u < n) : resM x y n 0 u v = y u v := by
  unfold resM
  rw [if_pos (.inl hu)]

set_option maxRecDepth 100000 in
set_option maxHeartbeats 8000000 in
theorem restore_any (n m N : Nat) (R C L H X RA : Option Addr) (rc cc lc hc xc ra : Nat) (t : Net) (x r : Nat → Nat → Int) (w : World) (en : t.n = n) (em : t.m = m) (hN : NetR w R C L H t) (hX : MatR w X n m x) (ht : NetB t) (hNK : n + m ≤ N) (hNN : N ≤ 18) (hR : MatR w RA N N r) (hb : ∀ i j, i < n → j < m → 0 ≤ r i (n + j) ∧ r i (n + j) ≤ 1000000) :
    Calls Try.prog 102 #[.agg #[.slice R n rc, .slice C m cc, .slice L n lc, .slice H n hc], .slice X n xc, .slice RA N ra, .int .i64 (-1)] w fun e w' => ∃ (A : Option Addr) (ca : Nat), e = .returned (.slice A n ca) ∧ Mat w' w.heap.size w'.heap.size A n ca m (fun i j => t.hi i j - r i (n + j)) ∧ Below w.heap.size w w' := by
  have h8 := ht.n8
  have h8' := ht.m8
  rw [en] at h8
  rw [em] at h8'
  have HT := Lib.hid ht
  have HRB := Lib.hid hb
  have EN := Lib.hid en
  have EM := Lib.hid em
  obtain ⟨T0, hT0⟩ : ∃ T0, w.heap.size = T0 := ⟨_, rfl⟩
  have HT0 := Lib.hid hT0
  have b0 := below_new w (.cells #[.slice R n rc, .slice C m cc, .slice L n lc, .slice H n hc] 54)
  have x0 := box_new w #[.slice R n rc, .slice C m cc, .slice L n lc, .slice H n hc] 54
  have hz1 : (w.alloc (.cells #[.slice R n rc, .slice C m cc, .slice L n lc, .slice H n hc] 54)).heap.size = T0 + 1 := by rw [← HT0.out]; simp
  have HN := Lib.hid (hN.below b0)
  have HX := Lib.hid (IntsS.below hX b0)
  have HRR := Lib.hid (IntsS.below hR b0)
  rw [hT0] at x0
  have c0 := box_cell x0 0 (.slice R n rc) rfl
  have c1 := box_cell x0 1 (.slice C m cc) rfl
  have B0 := Lib.hid b0
  have X0 := Lib.hid x0
  have HZ1 := Lib.hid hz1
  clear hN hX ht hb en em b0 x0 hz1 hR
  go_enter Try.func102, Try.ntmps102
  go_wp2_with fail
  generalize w.alloc (.cells #[.slice R n rc, .slice C m cc, .slice L n lc, .slice H n hc] 54) = w1 at *
  go_quiet (fail)
  go_wp2_with fail
  have bd := below_drewN (Below.refl w1.heap.size w1) nq
  refine (copyMatrix_any X n xc _ _ (IntsS.below HX.out bd) (by omega) (fun j _ => by rw [lst_len]; omega)).mono ?_
  rintro e w2 ⟨A, ca, rfl, hM, hb2⟩
  have hM0 : Hid (Mat w2 (T0 + 1) w2.heap.size A n ca m (resM x (fun i j => t.hi i j - r i (n + j)) 0 0)) := Lib.hid (mat_fn (by rw [show (w1.drewN nq).heap.size = T0 + 1 from HZ1.out] at hM; exact hM) fun i j _ _ => resM_start)
  have HB2 : Hid (Below w1.heap.size w1 w2) := Lib.hid (bd.trans hb2)
  obtain ⟨hzz, hhz⟩ : ∃ hzz, w2.heap.size = hzz := ⟨_, rfl⟩
  rw [hhz] at hM0
  have hz2 : hzz ≤ w2.heap.size := by omega
  clear bd hM hb2 hhz c0 c1
  go_wp2_with fail
  go_loopw [24] (fun iv wr => ∃ i : Nat, i ≤ n ∧ iv = .int .i64 i ∧ Hid (Mat wr (T0 + 1) hzz A n ca m (resM x (fun i j => t.hi i j - r i (n + j)) i 0)) ∧ Hid (Below w1.heap.size w1 wr) ∧ hzz ≤ wr.heap.size) (fun iv _ => n - (intOf iv).toNat)
  case atStart => exact ⟨0, Nat.zero_le _, rfl, hM0, HB2, hz2⟩
  case round =>
    clear hM0 HB2 hz2
    obtain ⟨i, hi', rfl, HM, hbw, hz2⟩ := hrel
    by_cases hlt : i < n
    · obtain ⟨hnc, g0, V, cv, rfl, m1, _, _⟩ := mat_caps HM.out hlt
      go_wp2_with fail
      clear m1
      go_loopw [32] (fun jv wr => ∃ j : Nat, j ≤ m ∧ jv = .int .i64 j ∧ Hid (Mat wr (T0 + 1) hzz (some ⟨g0, 0, none⟩) n ca m (resM x (fun i j => t.hi i j - r i (n + j)) i j)) ∧ Hid (Below w1.heap.size w1 wr) ∧ hzz ≤ wr.heap.size) (fun jv _ => m - (intOf jv).toNat)
      case atStart => exact ⟨0, Nat.zero_le _, rfl, HM, hbw, hz2⟩
      case round =>
        clear HM hbw hz2
        obtain ⟨j, hj, rfl, HM, hbw, hz2⟩ := hrel
        by_cases hlj : j < m
        · obtain ⟨bh, vh, ch, eh, p1, p2⟩ := matR_cell (IntsS.below HN.out.hi hbw.out) (by rw [EN.out]; exact hlt) (by rw [EM.out]; exact hlj)
          rw [EM.out] at p1
          subst eh
          obtain ⟨br, vr, cr, er, q1, q2⟩ := matR_cell (IntsS.below HRR.out hbw.out) (i := i) (j := n + j) (by omega) (by omega)
          subst er
          have c3 := box_cell (box_below X0.out hbw.out) 3 (.slice (some bh) n hc) rfl
          obtain ⟨g0', g, cg, eA, k1, k2, k3, k4, k5, k6, k7, k8, k9, k10, back⟩ := mat_cell HM.out hlt hlj
          obtain rfl : g0 = g0' := congrArg Addr.block (Option.some.inj eA)
          have hb1 := HRB.out i j hlt hlj
          have hb2 := HT.out.b i j (by rw [EN.out]; exact hlt) (by rw [EM.out]; exact hlj)
          have hin2 : (n : Int) + (j : Int) < (N : Int) := by omega
          have hp0 : 0 ≤ (i : Int) * (m : Int) := by exact_mod_cast Nat.zero_le (i * m)
          have hp1 : (i : Int) * (m : Int) ≤ 64 := by exact_mod_cast Nat.mul_le_mul (show i ≤ 8 by omega) h8'
          have HM2 := Lib.hid ((mat_fn (back (t.hi i j - r i (n + j))) fun u v _ _ => (resM_step u v).symm).below (Below.refl _ _).drew)
          have HB2 := Lib.hid ((hbw.out.setCell (show w1.heap.size ≤ (⟨g, j, none⟩ : Addr).block by rw [HZ1.out]; exact k4) (.int .i64 (t.hi i j - r i (n + j)))).drew)
          have hz3 : hzz ≤ ((wr.setCell ⟨g, j, none⟩ (.int .i64 (t.hi i j - r i (n + j)))).drew).heap.size := by simpa using hz2
          have q1' : wr.cell? (br.add i) = some (.slice (some vr) N cr) := q1
          clear back eA HM hbw hz2
          go_wp2
          go_region
          go_wp2
          go_roundw
          case rel => exact ⟨j + 1, by omega, by go_num, HM2, HB2, hz3⟩
          case measure => simp [intOf]; omega
        · obtain rfl : j = m := by omega
          have HM2 := Lib.hid (mat_fn HM.out fun u v _ hv => (resM_row (x := x) (y := fun i j => t.hi i j - r i (n + j)) (i := i) (u := u) hv).symm)
          go_wp2
          go_roundw
          case rel => exact ⟨i + 1, by omega, by go_num, HM2, hbw, hz2⟩
          case measure => simp [intOf]; omega
    · obtain rfl : i = n := by omega
      have HM2 := Lib.hid (mat_lower (lo' := w.heap.size) (mat_fn HM.out fun u v hu _ => (resM_end (x := x) (y := fun a j => t.hi a j - r a (i + j)) (v := v) hu).symm) (by rw [HT0.out]; omega))
      have HB2 := Lib.hid (B0.out.trans (hbw.out.mono B0.out.size))
      go_wp2
      go_ret
      exact ⟨_, _, rfl, HM2.out, HB2.out⟩
end

section
open Go.RowKit Flo
set_option linter.unusedVariables false

theorem setRow_size (w : World) (g : Nat) (cs : Array Value) : (w.setRow g cs).heap.size = w.heap.size := by simp [World.setRow]
theorem setRow_grown (w : World) (g : Nat) (cs : Array Value) : w.grownBy (w.setRow g cs) (some g) :=
  ⟨rfl, rfl, rfl, by rw [setRow_size]; exact Nat.le_refl _, fun k _ hk => setRow_other w g k cs (fun e => hk (by rw [e]))⟩
/-- A copy into the beginning of a row of the call's own. -/
theorem own_setRow {w : World} {B n c g : Nat} {l l2 : List Int} (h : Own w B (some ⟨g, 0, none⟩) n c l) (hl : l2.length ≤ n) : ∃ cur : List Value, w.heap[g]? = some (.cells cur.toArray 3 (0, 0)) ∧ n ≤ cur.length ∧
    Own (w.setRow g (cur.take 0 ++ (l2.map (Value.int .i64) ++ cur.drop (0 + (l2.map (Value.int .i64)).length))).toArray) B (some ⟨g, 0, none⟩) n c (l2 ++ l.drop l2.length) := by
  obtain ⟨h1, h2⟩ := h
  have hln : l.length = n := by simpa using h1
  rcases h2 with ⟨h2, _⟩ | ⟨g', cap, cur, hv, h2, h3, h4, h5, h6, h7⟩
  · cases h2
  · injection hv with hv _ hv2
    injection hv with hv
    injection hv with hv
    subst hv hv2
    rw [Nat.mul_one] at h6 h7
    have hcl : cur.toList.length = c := by simpa using h6
    refine ⟨cur.toList, by simpa using h3, by omega, ?_, .inr ⟨g, c, _, rfl, h2, setRow_heap w g cur _ _ _ h3, h4, h5, ?_, ?_⟩⟩
    · simp; omega
    · simp [hcl]; omega
    · simp only [List.take_zero, List.nil_append, Nat.zero_add, List.length_map, Nat.mul_one]
      rw [List.take_append, List.take_of_length_le (by simpa using hl), List.length_map, List.take_drop, show l2.length + (n - l2.length) = n by omega, h7]
      simp
theorem step_copy_row {ops : Array Oper} {o : Oper} {a : Act} {w : World} {K : Act → World → Prop} {Q : Exit → Act → World → Prop} {E : Prop} (hgd : o.guard = none) (d s : Operand)
    (ho : o.op = .call { callee := .builtin .copy, args := #[d, s], argTypes := #[24, 24] })
    (g dLen dCap : Nat) (ad : Addr) (sLen sCap : Nat) (hd : a.eval d = .slice (some ⟨g, 0, none⟩) dLen dCap) (hs : a.eval s = .slice (some ad) sLen sCap)
    (cur : List Value) (hg : w.heap[g]? = some (.cells cur.toArray 3 (0, 0))) (l : List Int) (hn : l.length = Nat.min sLen dLen)
    (hsrc : ∀ j v, (l.map (Value.int .i64))[j]? = some v → w.cell? (ad.add j) = some v) (hfit : l.length ≤ cur.length)
    (h : K (a.put o.dst (goInt l.length)) (w.setRow g (cur.take 0 ++ (l.map (Value.int .i64) ++ cur.drop (0 + (l.map (Value.int .i64)).length))).toArray)) :
    if Region.wanted o (yielded ops a.tmps) = true then Oper.wp Try.prog o a w K Q else E := by
  obtain ⟨i0, hi0, hz0, hz1, hz2⟩ := info_parts Try.infoInt
  have hw : Region.wanted o (yielded ops a.tmps) = true := by simp [Region.wanted, hgd]
  rw [if_pos hw]
  have hrun := run_copy_row (P := Try.prog) w 24 24 o.type 3 g 0 dLen dCap ad sLen sCap cur.toArray 3 (l.map (Value.int .i64)) Try.underlying24 (by rw [hi0]; simp [hz1]) hg (by simpa using hn) hsrc (by simpa using hfit) (by
    intro v hv
    obtain ⟨x, _, rfl⟩ := List.mem_map.1 hv
    rfl)
  unfold Oper.wp
  simp [execOp, ho, resolve, invoke, builtin, hd, hs, hrun, Result.andThen]
  simp only [List.take_zero, List.nil_append, Nat.zero_add, List.length_map] at h
  exact h
/-- A new row is put into its place. -/
theorem OwnII.put {wr w2 : World} {lo hi n c i V2n c2 : Nat} {A V2 : Option Addr} {L : Nat → List Int} {l : List Int} (h : OwnII wr lo hi A n c L) (hhi : hi ≤ wr.heap.size) (hlo : lo ≤ hi) (hi' : i < n) (hb : Below wr.heap.size wr w2) (hv : OwnI w2 wr.heap.size w2.heap.size V2 V2n c2 l) (hl : l.length = V2n) :
    ∃ g0, A = some ⟨g0, 0, none⟩ ∧ lo ≤ g0 ∧ g0 < wr.heap.size ∧ (∃ u, w2.cell? ⟨g0, i, none⟩ = some u) ∧ w2.frozen? ⟨g0, i, none⟩ = false ∧ OwnII (w2.setCell ⟨g0, i, none⟩ (.slice V2 V2n c2)) lo w2.heap.size A n c (upd L i l) := by
  subst hl
  obtain ⟨ys, h1, h2⟩ := (h.fit (Nat.le_refl lo)).cells
  obtain ⟨g, rfl, hlg, hgs⟩ := row_head h1 (by omega)
  obtain ⟨V, cc, e2, hV⟩ := h2.row i (Nat.zero_le _) hi'
  rw [Nat.mul_one, Nat.add_zero] at e2
  obtain ⟨T1, T2⟩ := sets_step (l := l) (c2 := c2) (V2 := V2) h1 h2 hi' e2 (grown_none hb _) (hv.own.mono (by omega)) hv.small (by
    cases e : rowOf V2 with
    | none => exact .inl rfl
    | some b => exact .inr (.inr ⟨b, rfl, (hv.own.row_ge b e).1⟩))
  have hr := row_below h1 hb
  refine ⟨g, rfl, hlg, hgs, (row_one hr hi').1, (row_one hr hi').2, ⟨_, T1, T2⟩, fun q hq => ?_, h.small⟩
  obtain rfl : g = q := by simpa [rowOf] using hq
  exact Nat.lt_of_lt_of_le hgs hb.size
/-- The beginning of a row is copied. -/
theorem OwnII.copied {w : World} {lo hi n c i : Nat} {A : Option Addr} {L : Nat → List Int} {l : List Int} (h : OwnII w lo hi A n c L) (hi' : i < n) (hl : l.length ≤ (L i).length) (h0 : 0 < (L i).length) : ∃ g0 g cv cur, A = some ⟨g0, 0, none⟩ ∧ w.cell? ⟨g0, i, none⟩ = some (.slice (some ⟨g, 0, none⟩) (L i).length cv) ∧ lo ≤ g ∧ w.heap[g]? = some (.cells (List.toArray cur) 3 (0, 0)) ∧ l.length ≤ cur.length ∧
    OwnII (w.setRow g (cur.take 0 ++ (l.map (Value.int .i64) ++ cur.drop (0 + (l.map (Value.int .i64)).length))).toArray) lo hi A n c (upd L i (l ++ (L i).drop l.length)) := by
  obtain ⟨g0, V, cv, rfl, h1, hV, h2, h3, h4, h5, hback⟩ := OwnII.inner h hi'
  obtain ⟨g, rfl, h6, h7, h8, h9⟩ := hV.own.at_ h0
  obtain ⟨cur, e1, e2, e3⟩ := own_setRow hV.own hl
  exact ⟨g0, g, cv, cur, rfl, h1, h6, e1, by omega, hback _ _ (by simp; omega) (by rw [show rowOf (some (⟨g, 0, none⟩ : Addr)) = some g from rfl]; exact setRow_grown _ _ _) e3⟩
end
end Go.Proofs.Ytcjmapdeopffcaa
