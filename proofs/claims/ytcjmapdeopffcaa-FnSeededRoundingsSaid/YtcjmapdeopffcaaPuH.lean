/- The greatest matrix within the bounds: fill. -/
import Derived.Test.YtcjmapdeopffcaaHj
namespace Go.Proofs.Ytcjmapdeopffcaa
open Go.RowKit Flo
set_option linter.unusedVariables false

def fil0 (t : Net) (u v : Nat) : Int := if u < t.n + t.m ∧ v < t.n + t.m then roomV t t.lo u v else 0
def fil1 (t : Net) (i u v : Nat) : Int := if u = t.n + t.m ∧ v < i then t.R v - sm t.m (t.lo v) else fil0 t u v
def fil2 (t : Net) (j u v : Nat) : Int := if t.n ≤ u ∧ u < t.n + j ∧ v = t.n + t.m + 1 then t.C (u - t.n) - sm t.n (fun i => t.lo i (u - t.n)) else fil1 t t.n u v
section
variable {t : Net} {i j u v : Nat}
theorem fil1_start : fil1 t 0 u v = fil0 t u v := by unfold fil1; rw [if_neg (by omega)]
theorem fil1_step (u v : Nat) : updM (fil1 t i) (t.n + t.m) i (t.R i - sm t.m (t.lo i)) u v = fil1 t (i + 1) u v := by
  unfold updM
  by_cases h : u = t.n + t.m ∧ v = i
  · rw [if_pos h]
    unfold fil1
    rw [if_pos (by omega), h.2]
  · rw [if_neg h]
    unfold fil1
    by_cases h2 : u = t.n + t.m ∧ v < i
    · rw [if_pos h2, if_pos (by omega)]
    · rw [if_neg h2, if_neg (by omega)]
theorem fil2_start : fil2 t 0 u v = fil1 t t.n u v := by unfold fil2; rw [if_neg (by omega)]
theorem fil2_step (u v : Nat) : updM (fil2 t j) (t.n + j) (t.n + t.m + 1) (t.C j - sm t.n (fun i => t.lo i j)) u v = fil2 t (j + 1) u v := by
  unfold updM
  by_cases h : u = t.n + j ∧ v = t.n + t.m + 1
  · rw [if_pos h]
    unfold fil2
    rw [if_pos (by omega), h.1, Nat.add_sub_cancel_left]
  · rw [if_neg h]
    unfold fil2
    by_cases h2 : t.n ≤ u ∧ u < t.n + j ∧ v = t.n + t.m + 1
    · rw [if_pos h2, if_pos (by omega)]
    · rw [if_neg h2, if_neg (by omega)]
theorem fil2_end : filR t u v = fil2 t t.m u v := by
  unfold filR fil2 fil1 fil0
  by_cases h1 : u < t.n ∧ t.n ≤ v ∧ v < t.n + t.m
  · rw [if_pos h1, if_neg (by omega), if_neg (by omega), if_pos (by omega)]
    unfold roomV
    rw [if_pos (by omega)]
  · rw [if_neg h1]
    by_cases h2 : u = t.n + t.m ∧ v < t.n
    · rw [if_pos h2, if_neg (by omega), if_pos h2]
    · rw [if_neg h2]
      by_cases h3 : t.n ≤ u ∧ u < t.n + t.m ∧ v = t.n + t.m + 1
      · rw [if_pos h3, if_pos h3]
      · rw [if_neg h3, if_neg h3, if_neg h2]
        by_cases h4 : u < t.n + t.m ∧ v < t.n + t.m
        · rw [if_pos h4]
          unfold roomV
          rw [if_neg (by omega)]
          by_cases h5 : t.n ≤ u ∧ v < t.n
          · rw [if_pos h5]; omega
          · rw [if_neg h5]
        · rw [if_neg h4]
theorem filR_le (ht : NetB t) (hl : t.Low) (u v : Nat) : 0 ≤ filR t u v ∧ filR t u v ≤ 100000 := by
  refine ⟨filR_nn ⟨fun i j hi hj => (ht.b i j hi hj).2.1⟩ hl u v, ?_⟩
  unfold filR
  split
  · rename_i h
    have := ht.b u (v - t.n) h.1 (by omega)
    omega
  · split
    · rename_i h
      have h1 := ht.r v h.2
      have h2 : 0 ≤ sm t.m (t.lo v) := sm_nonneg fun j hj => (ht.b v j h.2 hj).1
      omega
    · split
      · rename_i h
        have h1 := ht.c (u - t.n) (by omega)
        have h2 : 0 ≤ sm t.n (fun i => t.lo i (u - t.n)) := sm_nonneg fun i hi => (ht.b i (u - t.n) hi (by omega)).1
        omega
      · omega
end
/-- The rows of the first matrix. -/
def filL (t : Net) (n m u : Nat) : List Int := lst (n + m + 2) (fil0 t u)
theorem filL_in {t : Net} {n m k : Nat} (en : t.n = n) (em : t.m = m) (hk : k < n + m) : lst (n + m) (roomV t t.lo k) ++ (lst (n + m + 2) (fun _ => 0)).drop (lst (n + m) (roomV t t.lo k)).length = filL t n m k := by
  subst en em
  unfold filL
  apply List.ext_getElem?
  intro j
  rcases Nat.lt_or_ge j (t.n + t.m) with h | h
  · rw [List.getElem?_append_left (by rw [lst_len]; exact h), lst_get? h, lst_get? (by omega)]
    unfold fil0
    rw [if_pos ⟨hk, h⟩]
  · rw [List.getElem?_append_right (by rw [lst_len]; exact h), lst_len, List.getElem?_drop, show t.n + t.m + (j - (t.n + t.m)) = j by omega]
    rcases Nat.lt_or_ge j (t.n + t.m + 2) with h2 | h2
    · rw [lst_get? h2, lst_get? h2]
      unfold fil0
      rw [if_neg (by omega)]
    · rw [List.getElem?_eq_none (by rw [lst_len]; exact h2), List.getElem?_eq_none (by rw [lst_len]; exact h2)]
theorem filL_out {t : Net} {n m k : Nat} (en : t.n = n) (em : t.m = m) (hk : ¬ k < n + m) : lst (n + m + 2) (fun _ => 0) = filL t n m k := lst_congr fun j _ => by
  subst en em
  unfold fil0
  rw [if_neg (by omega)]
theorem ints_src {w : World} {av : Addr} {n : Nat} {xs : List Int} (h : Ints w (some av) n xs) : ∀ j v, (xs.map (Value.int .i64))[j]? = some v → w.cell? (av.add j) = some v := fun j v hv => by
  rw [List.getElem?_map] at hv
  obtain ⟨x, hx, rfl⟩ := Option.map_eq_some_iff.1 hv
  have hj : j < n := by
    rw [← h.1]
    exact (List.getElem?_eq_some_iff.1 hx).1
  obtain ⟨ad, e, hc⟩ := Ints.at_ h hj
  obtain rfl := Option.some.inj e
  rw [hx] at hc
  exact hc
/-- What fill answers. -/
def FillR (t : Net) (n m : Nat) (w w' : World) (v : Value) : Prop := (v = .slice none 0 0 ∧ ¬ t.Low) ∨ ∃ (A : Option Addr) (ca : Nat) (r' : Nat → Nat → Int) (s : Int), v = .slice A n ca ∧ t.Low ∧ Mat w' w.heap.size w'.heap.size A n ca m (filX t r') ∧ Sent (n + m + 2) (filR t) r' (n + m) (n + m + 1) s ∧ Most (n + m + 2) r' (n + m) (n + m + 1) s (sm n t.R)

set_option maxRecDepth 100000 in
set_option maxHeartbeats 8000000 in
theorem fill_any (n m : Nat) (R C L H : Option Addr) (rc cc lc hc : Nat) (t : Net) (w : World) (en : t.n = n) (em : t.m = m) (hN : NetR w R C L H t) (ht : NetB t) :
    Calls Try.prog 92 #[.agg #[.slice R n rc, .slice C m cc, .slice L n lc, .slice H n hc]] w fun e w' => ∃ v, e = .returned v ∧ FillR t n m w w' v ∧ Below w.heap.size w w' := by
  have h8 := ht.n8
  have h8' := ht.m8
  have h1 := ht.n1
  have h1' := ht.m1
  rw [en] at h8 h1
  rw [em] at h8' h1'
  have HT := Lib.hid ht
  have EN := Lib.hid en
  have EM := Lib.hid em
  obtain ⟨T0, hT0⟩ : ∃ T0, w.heap.size = T0 := ⟨_, rfl⟩
  have HT0 := Lib.hid hT0
  have b0 := below_new w (.cells #[.slice R n rc, .slice C m cc, .slice L n lc, .slice H n hc] 54)
  have x0 := box_new w #[.slice R n rc, .slice C m cc, .slice L n lc, .slice H n hc] 54
  have hz1 : (w.alloc (.cells #[.slice R n rc, .slice C m cc, .slice L n lc, .slice H n hc] 54)).heap.size = T0 + 1 := by rw [← HT0.out]; simp
  have HN := Lib.hid (hN.below b0)
  rw [hT0] at x0
  have c0 := box_cell x0 0 (.slice R n rc) rfl
  have c1 := box_cell x0 1 (.slice C m cc) rfl
  have c2 := box_cell x0 2 (.slice L n lc) rfl
  have c3 := box_cell x0 3 (.slice H n hc) rfl
  have B0 := Lib.hid b0
  have X0 := Lib.hid x0
  have HZ1 := Lib.hid hz1
  obtain ⟨i0, hi0, hz0, hz1', hz2⟩ := info_parts Try.infoIntS
  obtain ⟨i1, hi1, hz01, hz11, hz21⟩ := info_parts Try.infoInt
  clear hN ht en em b0 x0 hz1
  go_enter Try.func92, Try.ntmps92
  go_wp2_with fail
  generalize w.alloc (.cells #[.slice R n rc, .slice C m cc, .slice L n lc, .slice H n hc] 54) = w1 at *
  go_quiet (fail)
  go_wp2_with fail
  have bd := below_drewN (Below.refl w1.heap.size w1) nq
  refine (residual_any n m R C L H L rc cc lc hc lc t t.lo _ EN.out EM.out (HN.out.below bd) (by have := (HN.out.below bd).lo; rw [EN.out, EM.out] at this; exact this) HT.out (fun i j hi hj => ⟨Int.le_refl _, (HT.out.b i j hi hj).2.1⟩)).mono ?_
  rintro e w2 ⟨Ai, ci, rfl, hI, bI⟩
  have HI := Lib.hid (OwnII.read hI)
  have hb2 := bd.trans bI
  have HB2 : Hid (Below w1.heap.size w1 w2) := Lib.hid hb2
  obtain ⟨T1, hT1⟩ : ∃ T1, w2.heap.size = T1 := ⟨_, rfl⟩
  have HT1 := Lib.hid hT1
  have HX2 := Lib.hid (box_below X0.out hb2)
  have HN2 := Lib.hid (HN.out.below hb2)
  have hz2' : T0 + 1 ≤ T1 := by have := hb2.size; rw [HZ1.out] at this; omega
  clear bd hI bI hb2 c0 c1 c2 c3
  go_wp2_with (at_make; refine wpList_make_full _ rfl _ _ 22 rfl T1 24 i0 _ 1 Try.underlying22 hi0 hz0 hz1' .i64 .i64 _ _ (n + m + 2) rfl rfl rfl rfl (by rw [hz2]; omega) (by unfold maxLen; omega) (by omega) ?_; intro w3 hown hg)
  have hb3 : Below T1 w2 w3 := (Below.refl _ _).grown hg (by omega) (by simp)
  have hO0 : OwnII w3 T1 w3.heap.size (some ⟨T1, 0, none⟩) (n + m + 2) (n + m + 2) (upTo (filL t n m) 0) := ⟨⟨_, by rw [hT1] at hown; exact hown, Sub.nils (fun j hj => madeRows (n + m + 2) j hj) (fun j _ => by simp [upTo])⟩, (fun q hq => by obtain rfl : T1 = q := (by simpa [rowOf] using hq); rw [hT1] at hown; exact (World.ownsRow.lt hown T1 rfl).2), by omega⟩
  have HO := Lib.hid hO0
  have HB3 := Lib.hid hb3
  try rw [hT1]
  clear hg hi0 hz0 hz1' hz2 hown hO0 hb3 hT1 hT0
  go_loopw [31] (fun i wr => ∃ (k : Nat), k ≤ n + m + 2 ∧ i = .int .i64 k ∧ Hid (OwnII wr T1 wr.heap.size (some ⟨T1, 0, none⟩) (n + m + 2) (n + m + 2) (upTo (filL t n m) k)) ∧ Hid (Below T1 w2 wr)) (fun i _ => (n + m + 2) - (intOf i).toNat)
  case atStart => exact ⟨0, Nat.zero_le _, rfl, HO, HB3⟩
  case round =>
    clear HO HB3
    obtain ⟨k, hk, rfl, HO, HB3⟩ := hrel
    have hzr : T1 ≤ wr.heap.size := by have := HB3.out.size; rw [HT1.out] at this; exact this
    by_cases hlt : k < n + m + 2
    · have HMK := Lib.hid (fun (w5 : World) (h : w5.ownsRow wr.heap.size 3 1 (.slice (some ⟨wr.heap.size, 0, none⟩) (n + m + 2) (n + m + 2)) (n + m + 2) (madeCells (Value.int .i64 0).cells ((n + m + 2) * 1)).toList) (hg : wr.grownBy w5 none) => (show Below wr.heap.size wr w5 ∧ OwnI w5 wr.heap.size w5.heap.size (some ⟨wr.heap.size, 0, none⟩) (n + m + 2) (n + m + 2) (lst (n + m + 2) (fun _ => 0)) from by
        rw [map_replicate0, rep_lst] at h
        exact ⟨(Below.refl _ _).grown hg (Nat.le_refl _) (by simp), OwnI.of_own h (by omega)⟩))
      have HP := Lib.hid (fun (w5 : World) hb hv => OwnII.put (w2 := w5) (V2 := some ⟨wr.heap.size, 0, none⟩) (V2n := n + m + 2) (c2 := n + m + 2) (l := lst (n + m + 2) (fun _ => 0)) HO.out (Nat.le_refl _) hzr hlt hb hv (lst_len _ _))
      by_cases hkn : k < n + m
      · go_wp2_with (at_make; refine wpList_make_full _ rfl _ _ 24 rfl wr.heap.size 3 i1 _ 1 Try.underlying24 hi1 hz01 hz11 .i64 .i64 _ _ (n + m + 2) rfl rfl rfl rfl (by rw [hz21]; omega) (by unfold maxLen; omega) (Nat.le_refl _) ?_; intro w5 hown5 hg5; obtain ⟨hb5, o5⟩ := HMK.out w5 hown5 hg5; obtain ⟨g0, e0, _, _, ⟨u0, hu0⟩, hf0, p5⟩ := HP.out w5 hb5 o5; obtain rfl : T1 = g0 := congrArg Addr.block (Option.some.inj e0); have P5 := Lib.hid p5; have R5 := Lib.hid (HB3.out.trans (hb5.mono hzr)); clear p5 o5 hb5 hown5 hg5 e0)
        obtain ⟨w6, hw6⟩ : ∃ w6, w6 = w5.setCell ⟨T1, k, none⟩ (.slice (some ⟨wr.heap.size, 0, none⟩) (n + m + 2) (n + m + 2)) := ⟨_, rfl⟩
        have R6 : Hid (Below T1 w2 w6.drew) := Lib.hid (by rw [hw6]; exact (R5.out.setCell (Nat.le_refl _) _).drew)
        have P6 : OwnII w6.drew T1 w6.drew.heap.size (some ⟨T1, 0, none⟩) (n + m + 2) (n + m + 2) (upd (upTo (filL t n m) k) k (lst (n + m + 2) fun _ => 0)) := by
          rw [hw6]
          exact (P5.out.fit (Nat.le_refl _)).keep fun _ _ _ _ => rfl
        rw [← hw6]
        obtain ⟨g0, g, cv, cur, e0, q1, q2, q3, q4, P7⟩ := OwnII.copied P6 hlt (l := lst (n + m) (roomV t t.lo k)) (by rw [upd_at, lst_len, lst_len]; omega) (by rw [upd_at, lst_len]; omega)
        obtain rfl : T1 = g0 := congrArg Addr.block (Option.some.inj e0)
        rw [upd_at, lst_len] at q1
        rw [upd_at] at P7
        obtain ⟨ai, rfl, V, cV, r1, r2⟩ := matR_row (IntsS.below HI.out (R6.out.mono (by rw [HT1.out]; exact Nat.le_refl _))) hkn
        obtain ⟨av, rfl, _⟩ := vecR_at r2 (show 0 < n + m by omega)
        have r3 := ints_src r2
        have hLn : (lst (n + m) (roomV t t.lo k)).length = Nat.min (n + m) (n + m + 2) := by rw [lst_len]; exact (Nat.min_eq_left (by omega)).symm
        obtain ⟨arr, harr⟩ : ∃ arr, arr = (cur.take 0 ++ ((lst (n + m) (roomV t t.lo k)).map (Value.int .i64) ++ cur.drop (0 + ((lst (n + m) (roomV t t.lo k)).map (Value.int .i64)).length))).toArray := ⟨_, rfl⟩
        rw [← harr] at P7
        have HARR := Lib.hid harr
        clear harr
        have P8 := Lib.hid ((OwnII.fn P7 (L' := upTo (filL t n m) (k + 1)) fun j _ => by
          rw [← upTo_step, filL_in EN.out EM.out hkn]
          unfold upd
          by_cases e : j = k
          · rw [if_pos e, if_pos e]
          · rw [if_neg e, if_neg e, if_neg e]).fit (Nat.le_refl _))
        have R8 := Lib.hid (below_setRow R6.out q2 arr)
        have Q1 : w6.cell? ⟨T1, k, none⟩ = some (.slice (some ⟨g, 0, none⟩) (n + m + 2) cv) := q1
        have R1 : w6.cell? (ai.add k) = some (.slice (some av) (n + m) cV) := r1
        clear hw6 P6 P7 r2 q1 r1 e0 hu0 hf0 HMK HP
        generalize lst (n + m) (roomV t t.lo k) = l at *
        go_region_law ((refine step_copy_row (by rfl) _ _ (by rfl) g (n + m + 2) cv av (n + m) cV (by rfl) (by rfl) cur (by exact q3) l (by exact hLn) (by exact r3) (by exact q4) ?_; rw [← HARR.out]))
        all_goals go_wp2
        all_goals go_roundw
        all_goals first | exact ⟨k + 1, by omega, by go_num, P8, R8⟩ | (simp [intOf]; omega)
      · go_wp2_with (at_make; refine wpList_make_full _ rfl _ _ 24 rfl wr.heap.size 3 i1 _ 1 Try.underlying24 hi1 hz01 hz11 .i64 .i64 _ _ (n + m + 2) rfl rfl rfl rfl (by rw [hz21]; omega) (by unfold maxLen; omega) (Nat.le_refl _) ?_; intro w5 hown5 hg5; obtain ⟨hb5, o5⟩ := HMK.out w5 hown5 hg5; obtain ⟨g0, e0, _, _, ⟨u0, hu0⟩, hf0, p5⟩ := HP.out w5 hb5 o5; obtain rfl : T1 = g0 := congrArg Addr.block (Option.some.inj e0); have P5 := Lib.hid p5; have R5 := Lib.hid (HB3.out.trans (hb5.mono hzr)); clear p5 o5 hb5 hown5 hg5 e0)
        have P8 := Lib.hid ((OwnII.fn P5.out (L' := upTo (filL t n m) (k + 1)) fun j _ => by
          rw [← upTo_step, ← filL_out EN.out EM.out hkn]).fit (Nat.le_refl _))
        have R8 := Lib.hid (R5.out.setCell (p := ⟨T1, k, none⟩) (Nat.le_refl _) (.slice (some ⟨wr.heap.size, 0, none⟩) (n + m + 2) (n + m + 2)))
        go_roundw
        case rel => exact ⟨k + 1, by omega, by go_num, P8, R8⟩
        case measure => simp [intOf]; omega
    · have HM0 : Hid (Mat wr T1 wr.heap.size (some ⟨T1, 0, none⟩) (n + m + 2) (n + m + 2) (n + m + 2) (fil1 t 0)) := Lib.hid (OwnII.fn HO.out fun j hj => by
        unfold upTo
        rw [if_pos (by omega)]
        exact lst_congr fun v _ => fil1_start)
      have HX3 := Lib.hid (box_below HX2.out (HB3.out.mono (by rw [HT1.out]; exact Nat.le_refl _)))
      have HN3 := Lib.hid (HN2.out.below (HB3.out.mono (by rw [HT1.out]; exact Nat.le_refl _)))
      have c0 := box_cell HX3.out 0 (.slice R n rc) rfl
      have c1 := box_cell HX3.out 1 (.slice C m cc) rfl
      have c2 := box_cell HX3.out 2 (.slice L n lc) rfl
      have c3 := box_cell HX3.out 3 (.slice H n hc) rfl
      obtain ⟨T2, hT2⟩ : ∃ T2, wr.heap.size = T2 := ⟨_, rfl⟩
      have HT2 := Lib.hid hT2
      rw [hT2] at HM0
      have HL3 : Hid (MatR wr L n m t.lo) := Lib.hid (by have := HN3.out.lo; rw [EN.out, EM.out] at this; exact this)
      have HLB : Hid (∀ i j, i < n → j < m → 0 ≤ t.lo i j ∧ t.lo i j ≤ 1000000000) := Lib.hid (fun i j hi hj => by have := HT.out.b i j (by rw [EN.out]; exact hi) (by rw [EM.out]; exact hj); omega)
      clear HO hzr
      clear hT2
      go_wp2_with fail
      try clear hlt
      try clear hk
      have HK := Lib.hid (fun (w4 w5 : World) (A8 A9 : Option Addr) (c8 c9 : Nat) (o4 : Vec w4 wr.drew.heap.size w4.heap.size A8 n c8 (fun i => sm m (t.lo i))) (b4 : Below wr.drew.heap.size wr.drew w4) (o5 : Vec w5 w4.heap.size w5.heap.size A9 m c9 (fun j => sm n (fun i => t.lo i j))) (b5 : Below w4.heap.size w4 w5) =>
        (show ∃ (A8' A9' : Option Addr) (c8' c9' : Nat), Value.slice A8 n c8 = .slice A8' n c8' ∧ Value.slice A9 m c9 = .slice A9' m c9' ∧ Hid (Vec w5 T2 w5.heap.size A8' n c8' (fun i => sm m (t.lo i))) ∧ Hid (Vec w5 T2 w5.heap.size A9' m c9' (fun j => sm n (fun i => t.lo i j))) ∧ Hid (Below wr.heap.size wr w5) from
          ⟨A8, A9, c8, c9, rfl, rfl, Lib.hid ((OwnI.below o4 b5).fit (by rw [← HT2.out]; exact Nat.le_refl _)), Lib.hid (OwnI.fit o5 (by rw [← HT2.out]; exact b4.size)), Lib.hid ((Below.refl _ _).drew.trans (b4.trans (b5.mono b4.size)))⟩))
      go_cut [8, 9] (fun v8 v9 wx => ∃ (A8 A9 : Option Addr) (c8 c9 : Nat), v8 = .slice A8 n c8 ∧ v9 = .slice A9 m c9 ∧ Hid (Vec wx T2 wx.heap.size A8 n c8 (fun i => sm m (t.lo i))) ∧ Hid (Vec wx T2 wx.heap.size A9 m c9 (fun j => sm n (fun i => t.lo i j))) ∧ Hid (Below wr.heap.size wr wx))
      case first =>
        go_region_law ((first
          | (go_simp; go_at_call 71; refine (rowSums_any L n lc m t.lo _ (IntsS.below HL3.out (Below.refl _ _).drew) (by omega) (by omega) HLB.out).mono ?_; rintro e w4 ⟨A8, c8, rfl, o4, b4⟩; have q2 := cellLater (w := wr) (w' := w4) c2 ((Below.refl _ _).drew.trans b4); dsimp only)
          | (go_simp; go_at_call 72; refine (colSums_any L n lc m t.lo _ (IntsS.below HL3.out ((Below.refl _ _).drew.trans b4)) (by omega) (by omega) (by omega) HLB.out).mono ?_; rintro e w5 ⟨A9, c9, rfl, o5, b5⟩; dsimp only)))
        all_goals (go_wp2_with fail; go_meet)
        all_goals exact HK.out _ _ _ _ _ _ o4 b4 o5 b5
      case rest =>
        obtain ⟨A8, A9, c8, c9, rfl, rfl, HV8, HV9, HBc⟩ := hcut
        clear HK c0 c1 c2 c3 HX3 HN3
        have hB1c : Below w1.heap.size w1 wc := HB2.out.trans ((HB3.out.trans (HBc.out.mono (by rw [← HT1.out]; exact HB3.out.size))).mono (by rw [HZ1.out]; exact hz2'))
        have HB1 := Lib.hid hB1c
        have HXc := Lib.hid (box_below X0.out hB1c)
        have HMc := Lib.hid (OwnII.below HM0.out HBc.out)
        have HCc := Lib.hid (Chg.refl T1 T2 wc)
        have hzc : T2 ≤ wc.heap.size := by rw [← HT2.out]; exact HBc.out.size
        have HK1 : Hid (∀ i, i < n → 0 ≤ sm m (t.lo i) ∧ sm m (t.lo i) ≤ 800000 ∧ 0 ≤ t.R i ∧ t.R i ≤ 100000) := Lib.hid (fun i hi => by
          have h1 := sm_bd (n := m) (f := t.lo i) (b := 100000) (fun k hk => by have := HT.out.b i k (by rw [EN.out]; exact hi) (by rw [EM.out]; exact hk); omega)
          have h2 := HT.out.r i (by rw [EN.out]; exact hi)
          exact ⟨h1.1, by omega, h2.1, h2.2⟩)
        have HK2 : Hid (∀ j, j < m → 0 ≤ sm n (fun i => t.lo i j) ∧ sm n (fun i => t.lo i j) ≤ 800000 ∧ 0 ≤ t.C j ∧ t.C j ≤ 100000) := Lib.hid (fun j hj => by
          have h1 := sm_bd (n := n) (f := fun i => t.lo i j) (b := 100000) (fun k hk => by have := HT.out.b k j (by rw [EN.out]; exact hk) (by rw [EM.out]; exact hj); omega)
          have h2 := HT.out.c j (by rw [EM.out]; exact hj)
          exact ⟨h1.1, by omega, h2.1, h2.2⟩)
        have HZW : Hid (∀ wx, Chg T1 T2 wc wx → Below w1.heap.size w1 wx) := Lib.hid (fun wx hc => hc.below hB1c (by rw [HZ1.out]; exact hz2') hB1c.size)
        have HZF : Hid (∀ wx, Below w1.heap.size w1 wx → Below w.heap.size w wx) := Lib.hid (fun wx hb => B0.out.trans (hb.mono B0.out.size))
        have c0 := box_cell HXc.out 0 (.slice R n rc) rfl
        have HP0 : Hid (∀ i, i < 0 → sm m (t.lo i) ≤ t.R i) := Lib.hid (fun i hi => absurd hi (by omega))
        clear HM0 HBc hB1c
        go_wp2_with fail
        clear c0
        go_loopw [66] (fun iv wr => ∃ i : Nat, i ≤ n ∧ iv = .int .i64 i ∧ Hid (Mat wr T1 T2 (some ⟨T1, 0, none⟩) (n + m + 2) (n + m + 2) (n + m + 2) (fil1 t i)) ∧ Hid (Chg T1 T2 wc wr) ∧ Hid (∀ i', i' < i → sm m (t.lo i') ≤ t.R i')) (fun iv _ => n - (intOf iv).toNat)
        case atStart => exact ⟨0, Nat.zero_le _, rfl, HMc, HCc, HP0⟩
        case round =>
          clear HMc HCc HP0
          obtain ⟨i, hi, rfl, HM, HC, HP⟩ := hrel
          have HBw := Lib.hid (HZW.out _ HC.out)
          have HNw := Lib.hid (HN.out.below HBw.out)
          by_cases hlt : i < n
          · obtain ⟨ar, rfl, cr⟩ := vecR_at (show VecR wr R n t.R by have := HNw.out.r; rw [EN.out] at this; exact this) hlt
            have HV8w := Lib.hid (OwnI.chg HV8.out HC.out (.inr (Nat.le_refl _)))
            obtain ⟨g8, rfl, c8', _⟩ := vec_cell HV8w.out hlt
            have hbd := HK1.out i hlt
            have HPi := Lib.hid (fun (h : sm m (t.lo i) ≤ t.R i) => (show ∀ i', i' < i + 1 → sm m (t.lo i') ≤ t.R i' from fun i' hi' => by
              rcases Nat.lt_or_ge i' i with h1 | h1
              · exact HP.out i' h1
              · obtain rfl : i' = i := by omega
                exact h))
            by_cases hs : sm m (t.lo i) ≤ t.R i
            · obtain ⟨g0, g, cg, eA, k1, k2, k3, k4, k5, k6, k7, k8, k9, k10, back⟩ := mat_cell HM.out (i := n + m) (j := i) (by omega) (by omega)
              obtain rfl : T1 = g0 := congrArg Addr.block (Option.some.inj eA)
              have HM2 := Lib.hid ((mat_fn (back (t.R i - sm m (t.lo i))) fun u v _ _ => (by
                have h1 := fil1_step (t := t) (i := i) u v
                rw [EN.out, EM.out] at h1
                exact h1.symm : fil1 t (i + 1) u v = _)).below (Below.refl _ _).drew)
              have HC2 := Lib.hid ((HC.out.set (i := i) (v := .int .i64 (t.R i - sm m (t.lo i))) k4 k5).drew)
              have HP2 := Lib.hid (HPi.out hs)
              have hnm : (n : Int) + (m : Int) < (n : Int) + (m : Int) + 2 := by omega
              clear back eA HM HC HPi HP k4 k5 k6 k7 k8 k9 k10
              generalize sm m (t.lo i) = si at *
              generalize t.R i = ri at *
              go_wp2
              go_region
              go_wp2
              go_roundw
              case rel => exact ⟨i + 1, by omega, by go_num, HM2, HC2, HP2⟩
              case measure => simp [intOf]; omega
            · have HNL : Hid (¬ t.Low) := Lib.hid (fun h => hs (by have := h.row i (by rw [EN.out]; exact hlt); rw [EM.out] at this; exact this))
              have HBz := Lib.hid (HZF.out _ HBw.out)
              clear HPi HM HC HP
              generalize sm m (t.lo i) = si at *
              generalize t.R i = ri at *
              go_wp2
              go_ret
              exact ⟨_, rfl, .inl ⟨rfl, HNL.out⟩, HBz.out⟩
          · obtain rfl : n = i := by omega
            have HM2 := Lib.hid (mat_fn HM.out fun u v _ _ => (by rw [fil2_start, EN.out] : fil2 t 0 u v = fil1 t n u v))
            have c1 := box_cell (box_below X0.out HBw.out) 1 (.slice C m cc) rfl
            have HQ0 : Hid (∀ j, j < 0 → sm n (fun i => t.lo i j) ≤ t.C j) := Lib.hid (fun j hj => absurd hj (by omega))
            clear HM
            go_wp2_with fail
            clear c1
            go_loopw [95] (fun jv wr => ∃ j : Nat, j ≤ m ∧ jv = .int .i64 j ∧ Hid (Mat wr T1 T2 (some ⟨T1, 0, none⟩) (n + m + 2) (n + m + 2) (n + m + 2) (fil2 t j)) ∧ Hid (Chg T1 T2 wc wr) ∧ Hid (∀ j', j' < j → sm n (fun i => t.lo i j') ≤ t.C j')) (fun jv _ => m - (intOf jv).toNat)
            case atStart => exact ⟨0, Nat.zero_le _, rfl, HM2, HC, HQ0⟩
            case round =>
              clear HM2 HC HQ0 HBw HNw hlt
              obtain ⟨j, hj, rfl, HM, HC, HQ⟩ := hrel
              have HBw := Lib.hid (HZW.out _ HC.out)
              have HNw := Lib.hid (HN.out.below HBw.out)
              by_cases hlt : j < m
              · obtain ⟨ar, rfl, cr⟩ := vecR_at (show VecR wr C m t.C by have := HNw.out.c; rw [EM.out] at this; exact this) hlt
                have HV9w := Lib.hid (OwnI.chg HV9.out HC.out (.inr (Nat.le_refl _)))
                obtain ⟨g9, rfl, c9', _⟩ := vec_cell HV9w.out hlt
                have hbd := HK2.out j hlt
                have HQj := Lib.hid (fun (h : sm n (fun i => t.lo i j) ≤ t.C j) => (show ∀ j', j' < j + 1 → sm n (fun i => t.lo i j') ≤ t.C j' from fun j' hj' => by
                  rcases Nat.lt_or_ge j' j with h1 | h1
                  · exact HQ.out j' h1
                  · obtain rfl : j' = j := by omega
                    exact h))
                by_cases hs : sm n (fun i => t.lo i j) ≤ t.C j
                · obtain ⟨g0, g, cg, eA, k1, k2, k3, k4, k5, k6, k7, k8, k9, k10, back⟩ := mat_cell HM.out (i := n + j) (j := n + m + 1) (by omega) (by omega)
                  obtain rfl : T1 = g0 := congrArg Addr.block (Option.some.inj eA)
                  have HM2 := Lib.hid ((mat_fn (back (t.C j - sm n (fun i => t.lo i j))) fun u v _ _ => (by
                    have h1 := fil2_step (t := t) (j := j) u v
                    rw [EN.out, EM.out] at h1
                    exact h1.symm : fil2 t (j + 1) u v = _)).below (Below.refl _ _).drew)
                  have HC2 := Lib.hid ((HC.out.set (i := n + m + 1) (v := .int .i64 (t.C j - sm n (fun i => t.lo i j))) k4 k5).drew)
                  have HQ2 := Lib.hid (HQj.out hs)
                  have hnm : (n : Int) + (j : Int) < (n : Int) + (m : Int) + 2 := by omega
                  have hnm2 : (n : Int) + (m : Int) + 1 < (n : Int) + (m : Int) + 2 := by omega
                  clear back eA HM HC HQj HQ k4 k5 k6 k7 k8 k9 k10
                  generalize (sm n fun i => t.lo i j) = si at *
                  generalize t.C j = ri at *
                  go_wp2
                  go_region
                  go_wp2
                  go_roundw
                  case rel => exact ⟨j + 1, by omega, by go_num, HM2, HC2, HQ2⟩
                  case measure => simp [intOf]; omega
                · have HNL : Hid (¬ t.Low) := Lib.hid (fun h => hs (by have := h.col j (by rw [EM.out]; exact hlt); rw [EN.out] at this; exact this))
                  have HBz := Lib.hid (HZF.out _ HBw.out)
                  clear HQj HM HC HQ
                  generalize (sm n fun i => t.lo i j) = si at *
                  generalize t.C j = ri at *
                  go_wp2
                  go_ret
                  exact ⟨_, rfl, .inl ⟨rfl, HNL.out⟩, HBz.out⟩
              · obtain rfl : m = j := by omega
                have HLow : Hid t.Low := Lib.hid ⟨fun i hi => by rw [EM.out]; exact HP.out i (by rw [← EN.out]; exact hi), fun j hj => by rw [EN.out]; exact HQ.out j (by rw [← EM.out]; exact hj)⟩
                have HMR := Lib.hid (mat_fn HM.out fun u v _ _ => (by rw [fil2_end, EM.out] : filR t u v = fil2 t m u v))
                have c0 := box_cell (box_below X0.out HBw.out) 0 (.slice R n rc) rfl
                have HSR := Lib.hid (sm_bd (n := n) (f := t.R) (b := 100000) (fun k hk => HT.out.r k (by rw [EN.out]; exact hk)))
                have HFB : Hid (∀ u v, u < n + m + 2 → v < n + m + 2 → 0 ≤ filR t u v ∧ filR t u v + filR t v u ≤ 1000000) := Lib.hid (fun u v _ _ => by
                  have h1 := filR_le HT.out HLow.out u v
                  have h2 := filR_le HT.out HLow.out v u
                  omega)
                have hzw : T2 ≤ wr.heap.size := Nat.le_trans hzc HC.out.size
                clear HM HP HQ
                go_wp2_with fail
                refine (total_any R n rc t.R _ (by have := HNw.out.r; rw [EN.out] at this; exact this) (by omega) (fun k hk => by have := HT.out.r k (by rw [EN.out]; exact hk); omega)).mono ?_
                rintro e w6 ⟨rfl, rfl⟩
                go_wp2_with fail
                refine (push_any (n + m + 2) (some ⟨T1, 0, none⟩) (n + m + 2) T1 T2 (n + m) (n + m + 1) (sm n t.R) (filR t) _ HMR.out hzw (by omega) HFB.out (by omega) (by omega) (by omega) HSR.out.1 (by have := HSR.out; omega)).mono ?_
                rintro e w7 ⟨s, rfl, hs0, hs1, r', hM7, hS7, hMo7, hC7⟩
                have HM7 := Lib.hid hM7
                have HS7 := Lib.hid hS7
                have HMo7 := Lib.hid hMo7
                have HB7 := Lib.hid (HZW.out _ (HC.out.trans hC7))
                have HN7 := Lib.hid (HN.out.below HB7.out)
                have c0 := box_cell (box_below X0.out HB7.out) 0 (.slice R n rc) rfl
                have c1 := box_cell (box_below X0.out HB7.out) 1 (.slice C m cc) rfl
                have c2 := box_cell (box_below X0.out HB7.out) 2 (.slice L n lc) rfl
                have c3 := box_cell (box_below X0.out HB7.out) 3 (.slice H n hc) rfl
                clear hM7 hS7 hMo7 hC7
                go_wp2_with fail
                refine (restore_any n m (n + m + 2) R C L H L (some ⟨T1, 0, none⟩) rc cc lc hc lc (n + m + 2) t t.lo r' _ EN.out EM.out HN7.out (by have := HN7.out.lo; rw [EN.out, EM.out] at this; exact this) HT.out (by omega) (by omega) (OwnII.read HM7.out) (fun i j hi hj => by have := push_bd HS7.out HFB.out (u := i) (v := n + j) (by omega) (by omega); have := push_bd HS7.out HFB.out (u := n + j) (v := i) (by omega) (by omega); omega)).mono ?_
                rintro e w8 ⟨A, ca, rfl, hM8, hB8⟩
                have HB8 := Lib.hid (HZF.out _ (HB7.out.trans (hB8.mono HB7.out.size)))
                have HM8 := Lib.hid (mat_lower (lo' := w.heap.size) (mat_fn hM8 fun i j _ _ => (by unfold filX; rw [EN.out] : filX t r' i j = t.hi i j - r' i (n + j))) (HZF.out _ HB7.out).size)
                clear hM8 hB8 c0 c1 c2 c3
                go_wp2
                go_ret
                exact ⟨_, rfl, .inr ⟨A, ca, r', s, rfl, HLow.out, HM8.out, HS7.out, HMo7.out⟩, HB8.out⟩
end Go.Proofs.Ytcjmapdeopffcaa
