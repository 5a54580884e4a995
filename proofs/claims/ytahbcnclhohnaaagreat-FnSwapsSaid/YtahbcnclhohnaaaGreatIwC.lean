/- SwapPlan of the program: the walk. -/
import Derived.Test.YtahbcnclhohnaaaGreatIwS
import Derived.Test.YtahbcnclhohnaaaGreatIwB
namespace Go.Proofs.YtahbcnclhohnaaaGreat
open Go.RowKit

theorem planK_in {C : List (List Int)} {ch : List Bool} {N : Nat} {l : List Nat} {s : SpS} (hI : PkI C s l) (hN : C.length = N) (hch : s.ch = ch) : ∀ k, k ∈ spK ch N ↔ k ∈ l := fun k => by
  subst hch
  unfold spK
  rw [List.mem_filter, List.mem_range]
  constructor
  · intro h
    exact (hI.mem k).1 h.2
  · intro h
    exact ⟨by rw [← hN]; exact hI.lt k h, (hI.mem k).2 h⟩
theorem spK_asc (ch : List Bool) (N : Nat) : (spK ch N).Pairwise (· < ·) := List.Pairwise.filter _ List.pairwise_lt_range

set_option maxRecDepth 100000 in
set_option maxHeartbeats 4000000 in
theorem implSwapPlan_any (A B U : Option Addr) (n c m d l k' : Nat) (most sd : Int) (vs : List (ByteArray × Int)) (rs : List RecD) (us : List Int) (w : World) (hx : SchR w A n c vs) (hy : DatR w B m rs) (hu : IntR w U l us) :
    Calls Tryz.prog 6 #[.slice A n c, .slice B m d, .slice U l k', .int .i64 most, .int .i64 sd] w (RetPl w (planV vs rs us most sd)) := by
  have hlen := hx.len
  have hml := hy.len
  cases h0 : keyedB vs rs us
  · have H0 := Lib.hid h0
    have R := Lib.hid (planV_bad (show planOk vs rs us most sd = false by unfold planOk; rw [h0]; rfl))
    rw [R.out]
    clear h0 hlen hml
    go_enter Tryz.func6, Tryz.ntmps6
    go_wp2_with fail
    refine (areKeyed_any _ _ _ n _ m _ l _ vs rs us _ hx hy hu).mono ?_
    rintro e w1 ⟨rfl, b1⟩
    rw [H0.out]
    have B1 := Lib.hid b1
    clear b1 hx hy hu
    go_wp2
    go_ret2
    exact ⟨none, 0, rfl, OwnII.nil_, B1.out⟩
  have H0 := Lib.hid h0
  by_cases h1 : most < 0
  · have R := Lib.hid (planV_bad (show planOk vs rs us most sd = false by unfold planOk; rw [h0, inR_no (show ¬ (0 ≤ most ∧ most ≤ 20) by omega)]; rfl))
    rw [R.out]
    clear h0 hlen hml
    go_enter Tryz.func6, Tryz.ntmps6
    go_wp2_with fail
    refine (areKeyed_any _ _ _ n _ m _ l _ vs rs us _ hx hy hu).mono ?_
    rintro e w1 ⟨rfl, b1⟩
    rw [H0.out]
    have B1 := Lib.hid b1
    clear b1 hx hy hu
    go_wp2
    go_ret2
    exact ⟨none, 0, rfl, OwnII.nil_, B1.out⟩
  by_cases h1' : 20 < most
  · have R := Lib.hid (planV_bad (show planOk vs rs us most sd = false by unfold planOk; rw [h0, inR_no (show ¬ (0 ≤ most ∧ most ≤ 20) by omega)]; rfl))
    rw [R.out]
    clear h0 hlen hml
    go_enter Tryz.func6, Tryz.ntmps6
    go_wp2_with fail
    refine (areKeyed_any _ _ _ n _ m _ l _ vs rs us _ hx hy hu).mono ?_
    rintro e w1 ⟨rfl, b1⟩
    rw [H0.out]
    have B1 := Lib.hid b1
    clear b1 hx hy hu
    go_wp2
    go_ret2
    exact ⟨none, 0, rfl, OwnII.nil_, B1.out⟩
  have hi1 : inR most 0 20 = true := inR_yes (by omega) (by omega)
  cases h2 : inR sd 0 4611686016279904236
  · have H2 := Lib.hid h2
    have R := Lib.hid (planV_bad (show planOk vs rs us most sd = false by unfold planOk; rw [h0, hi1, h2]; rfl))
    rw [R.out]
    clear h0 hi1 h2 hlen hml
    go_enter Tryz.func6, Tryz.ntmps6
    go_wp2_with fail
    refine (areKeyed_any _ _ _ n _ m _ l _ vs rs us _ hx hy hu).mono ?_
    rintro e w1 ⟨rfl, b1⟩
    rw [H0.out]
    have B1 := Lib.hid b1
    clear b1 hx hy hu
    go_wp2_with fail
    refine (isSeed_any _ _).mono ?_
    rintro e w2 ⟨rfl, rfl⟩
    rw [H2.out]
    go_wp2
    go_ret2
    exact ⟨none, 0, rfl, OwnII.nil_, B1.out⟩
  have H2 := Lib.hid h2
  have hok : planOk vs rs us most sd = true := by unfold planOk; rw [h0, hi1, h2]; rfl
  have hk := keyed_all hlen h0
  have hm40 : m ≤ 40 := by have := hk.forty; rw [hml] at this; exact this
  have hsd := inR_of h2
  have RL := Lib.hid (fun h => planV_long (vs := vs) (rs := rs) (us := us) (most := most) (sd := sd) h)
  have RE := Lib.hid (fun h => planV_eq (vs := vs) (rs := rs) (us := us) (most := most) (sd := sd) hok h)
  have hCe : candT vs us rs m m = planC vs rs us := by unfold planC; rw [hml]
  have HC : Hid (∀ k, k < (planC vs rs us).length → ∃ a b : Nat, (planC vs rs us)[k]?.getD [] = [(a : Int), (b : Int)] ∧ a < b ∧ b < 40) := Lib.hid fun k hk => by
    rw [List.getElem?_eq_getElem hk, Option.getD_some]
    have h9 : (planC vs rs us)[k] ∈ planC vs rs us := List.getElem_mem hk
    unfold planC at h9
    obtain ⟨i, j, e, hij, hjm⟩ := candT_mem _ (Nat.le_refl _) h9
    exact ⟨i, j, by unfold planC; exact e, hij, by omega⟩
  have HAS : Hid ((planC vs rs us).Pairwise LexP) := Lib.hid (by unfold planC; exact candT_asc _)
  have HSh : Hid ((planC vs rs us).length ≤ 60 → shufR sd 0 ((planC vs rs us).length : Int) = shufT sd ((planC vs rs us).length - 1) (iota (planC vs rs us).length) 0) := Lib.hid fun h60 => by
    rw [shufR_3 (by unfold streamB; rw [h2]; rfl) (inR_yes (by omega) (by omega)), Int.toNat_natCast]
  clear h0 hi1 h2 hlen hok hsd
  go_enter Tryz.func6, Tryz.ntmps6
  go_wp2_with fail
  refine (areKeyed_any _ _ _ n _ m _ l _ vs rs us _ hx hy hu).mono ?_
  rintro e w1 ⟨rfl, b1⟩
  rw [H0.out]
  go_wp2_with fail
  refine (isSeed_any _ _).mono ?_
  rintro e w2 ⟨rfl, rfl⟩
  rw [H2.out]
  go_wp2_with fail
  refine (swapCandidates_any _ _ _ n _ m _ l _ vs rs us _ (hx.below b1) (hy.below b1) (hu.below b1) hk).mono ?_
  rintro e w2 ⟨A2, c2, rfl, o2, b2'⟩
  rw [hCe] at o2 ⊢
  have BB := b1.trans (b2'.mono b1.size)
  have hs0 := BB.size
  replace o2 := o2.fit b1.size
  have hsm := o2.small
  clear b1 b2' hx hy hu hk hCe H0 H2 hml
  generalize planC vs rs us = C at *
  generalize planV vs rs us most sd = PV at *
  by_cases h3 : C.length ≤ 60
  · have RR := Lib.hid (RE.out h3)
    have K := implShuffleWith_law sd 0 (C.length : Int) w2
    rw [HSh.out h3] at K
    clear RL RE HSh
    go_wp2_with fail
    refine K.mono ?_
    clear K
    rintro e w4 ⟨A4, c4, rfl, o4, b4⟩
    have hs4 := b4.size
    cases hM : shufT sd (C.length - 1) (iota C.length) 0 with
    | none =>
      have R := Lib.hid (show PV = none by rw [RR.out, hM]; rfl)
      have B4 := Lib.hid (BB.trans (b4.mono hs0))
      have B5 := Lib.hid ((BB.trans (b4.mono hs0)).alloc (Nat.le_trans hs0 hs4) (.cells #[.int .i64 0, .int .i64 0] 61))
      obtain rfl : PV = none := R.out
      rw [hM] at o4
      simp only [oL, oS, oA, oB]
      clear RR hM b4 o2 o4 R BB
      go_wp2
      go_ret2
      exact ⟨none, 0, rfl, OwnII.nil_, B5.out⟩
    | some r =>
      obtain ⟨ol, bb⟩ := r
      have R := Lib.hid (show PV = some (spR C (spSt C most ol C.length).ch C.length) by rw [RR.out, hM]; rfl)
      have hbd := shufT_mem _ _ _ _ _ C.length hM (iota_bd _).1 (iota_bd _).2 (by omega) (by omega) (by omega)
      rw [hM] at o4
      simp only [oL, oS, oA, oB] at o4 ⊢
      have HOL := Lib.hid hbd.1
      have HBD := Lib.hid hbd.2
      have HPI := Lib.hid (fun j hj => pk_inv (C := C) (most := most) hbd.2 j hj)
      clear RR hM hbd
      obtain rfl : PV = some (spR C (spSt C most ol C.length).ch C.length) := R.out
      clear R
      rw [HOL.out] at o4 ⊢
      have HI := Lib.hid o4.ints
      obtain ⟨zs, ho, hs⟩ := o2.cells
      have HZ := Lib.hid ho
      have HS := Lib.hid hs
      have hzl : zs.length = C.length := by have := ho.1; omega
      clear ho hs o2 o4
      have x5 := below_new w4 (.cells #[.int .i64 sd, .int .i64 bb] 61)
      have s5 := Lib.hid (show (w4.alloc (.cells #[.int .i64 sd, .int .i64 bb] 61)).heap.size = w4.heap.size + 1 by simp)
      have x6 := box_new (w4.alloc (.cells #[.int .i64 sd, .int .i64 bb] 61)) (usedA []) 64
      have b6 := below_new (w4.alloc (.cells #[.int .i64 sd, .int .i64 bb] 61)) (.cells (usedA []) 64)
      rw [s5.out] at x6
      have s6 := Lib.hid (show ((w4.alloc (.cells #[.int .i64 sd, .int .i64 bb] 61)).alloc (.cells (usedA []) 64)).heap.size = w4.heap.size + 2 by simp)
      have HB6 := Lib.hid (x5.trans (b6.mono x5.size))
      have X6 := Lib.hid x6
      clear x5 x6 b6
      have HC0 : Hid (usedA [] = #[.bool false, .bool false, .bool false, .bool false, .bool false, .bool false, .bool false, .bool false, .bool false, .bool false, .bool false, .bool false, .bool false, .bool false, .bool false, .bool false, .bool false, .bool false, .bool false, .bool false, .bool false, .bool false, .bool false, .bool false, .bool false, .bool false, .bool false, .bool false, .bool false, .bool false, .bool false, .bool false, .bool false, .bool false, .bool false, .bool false, .bool false, .bool false, .bool false, .bool false]) := Lib.hid rfl
      go_wp2_with fail
      rw [← HC0.out]
      clear HC0
      generalize (w4.alloc (.cells #[.int .i64 sd, .int .i64 bb] 61)).alloc (.cells (usedA []) 64) = w6 at *
      have sz6 := s6.out
      go_loopw [17, 59] (fun o i wr => ∃ (j : Nat) (D : Option Addr) (cu : Nat), j ≤ C.length ∧ i = .int .i64 j ∧ o = .slice D (pkL C most ol j).length cu ∧ Hid (wr.ownsRow w6.heap.size 26 1 (.slice D (pkL C most ol j).length cu) (pkL C most ol j).length ((pkL C most ol j).map fun k => zs[clN C.length k]?.getD (.slice none 0 0))) ∧ Hid (wr.heap[w4.heap.size + 1]? = some (.cells (usedA (spSt C most ol j).used) 64 (0, 0))) ∧ Below w4.heap.size w4 wr ∧ Hid (w6.heap.size ≤ wr.heap.size)) (fun _ i _ => C.length - (intOf i).toNat)
      case atStart => exact ⟨0, none, 0, Nat.zero_le _, rfl, rfl, Lib.hid (World.ownsRow_nil _ _ _ _), X6, HB6.out, Lib.hid (Nat.le_refl _)⟩
      case round =>
        clear X6 HB6
        obtain ⟨j, D, cu, hj, rfl, rfl, HO, HU, hbw, h6r⟩ := hrel
        have hszr := hbw.size
        have hs6r : w6.heap.size ≤ wr.heap.size := h6r.out
        have bw2 := Lib.hid (b4.trans (hbw.mono hs4))
        by_cases hlt : j < C.length
        · obtain ⟨hv0, hv1⟩ := HBD.out j hlt
          obtain ⟨ad4, rfl, q4⟩ := (HI.out.below hbw).at_ hlt
          obtain ⟨k, hkv⟩ := Int.eq_ofNat_of_zero_le hv0
          rw [hkv] at q4 hv0 hv1
          have hkC : k < C.length := by omega
          obtain ⟨a, b', hab, hab1, hb40⟩ := HC.out k hkC
          obtain ⟨V, cc, e5, hV⟩ := HS.out.row k (Nat.zero_le _) hkC
          rw [show k * 1 + 0 = k by omega] at e5
          have HZ9 := Lib.hid (row_below HZ.out bw2.out)
          obtain ⟨g2, rfl, _, _⟩ := row_head HZ9.out (show 0 < C.length by omega)
          have q5 := (World.ownsRow.cellAt HZ9.out k (by omega)).trans e5
          have hV1 := hV.ints.below bw2.out
          simp only [hab] at e5 q5 hV1
          obtain ⟨ad6, rfl, p0⟩ := hV1.at_ (show 0 < [(a : Int), (b' : Int)].length by simp)
          obtain ⟨ad6', e6, p1⟩ := hV1.at_ (show 1 < [(a : Int), (b' : Int)].length by simp)
          simp only [Option.some.injEq] at e6
          subst e6
          have p00 : wr.cell? ad6 = some (.int .i64 a) := by have := p0; simpa [Addr.add] using this
          have p11 : wr.cell? { block := ad6.block, off := ad6.off + 1, spot := none } = some (.int .i64 b') := by have := p1; simpa [Addr.add] using this
          replace q5 : wr.cell? ⟨g2, k, none⟩ = some (.slice (some ad6) 2 cc) := q5
          have hn6 : ad6.block < w4.heap.size := by
            have h9 := (hV.ints.at_ (show 0 < (C[k]?.getD []).length by rw [hab]; simp))
            obtain ⟨ad9, e9, p9⟩ := h9
            simp only [Option.some.injEq] at e9
            subst e9
            have h8 : ad6.block < w2.heap.size := by simpa [Addr.add] using block_lt_of_cell p9
            omega
          clear p0 p1 hV1 hV
          have hzk : Hid (zs[clN C.length k]?.getD (.slice none 0 0) = .slice (some ad6) 2 cc) := Lib.hid (by rw [clN_id hkC, e5]; rfl)
          have hI := HPI.out j (by omega)
          have HN := Lib.hid (fun h => spSt_no (C := C) (most := most) (ord := ol) (j := j) (k := k) hkv h)
          have HY := Lib.hid (fun h => spSt_yes (C := C) (most := most) (ord := ol) (j := j) (k := k) hkv hab h)
          have HPN := Lib.hid (fun h => pkL_no (C := C) (most := most) (ord := ol) (j := j) (k := k) hkv h)
          have HPY := Lib.hid (fun h => pkL_yes (C := C) (most := most) (ord := ol) (j := j) (k := k) hkv h)
          have HQ := Lib.hid (show spYes C most (spSt C most ol j) k = (decide (((pkL C most ol j).length : Int) < most) && (!hasB (spSt C most ol j).used a && !hasB (spSt C most ol j).used b')) by rw [hI.len]; exact spYes_eq hab)
          have hll : (pkL C most ol j).length ≤ j := by have h8 := hI.len; have h9 := (spSt_len C most ol j).2.2; omega
          have ua := box_cell HU.out a _ (usedA_at (L := (spSt C most ol j).used) (show a < 40 by omega))
          have ub := box_cell HU.out b' _ (usedA_at (L := (spSt C most ol j).used) hb40)
          have fa := box_free HU.out a
          have fb := box_free HU.out b'
          have HX := Lib.hid (box_set (box_set HU.out a (.bool true)) b' (.bool true))
          rw [usedA_set] at HX
          generalize hS9 : spSt C most ol j = S at *
          generalize hP9 : pkL C most ol j = L at *
          clear hS9 hP9 hab hkv hI e5
          have NO : Hid (spYes C most S k = false → ∃ (j_1 : Nat) (D_1 : Option Addr) (cu_1 : Nat), j_1 ≤ C.length ∧ Value.int .i64 ((j + 1 : Nat) : Int) = .int .i64 j_1 ∧ Value.slice D L.length cu = .slice D_1 (pkL C most ol j_1).length cu_1 ∧ Hid (wr.ownsRow w6.heap.size 26 1 (.slice D_1 (pkL C most ol j_1).length cu_1) (pkL C most ol j_1).length ((pkL C most ol j_1).map fun k => zs[clN C.length k]?.getD (.slice none 0 0))) ∧ Hid (wr.heap[w4.heap.size + 1]? = some (.cells (usedA (spSt C most ol j_1).used) 64 (0, 0))) ∧ Below w4.heap.size w4 wr ∧ Hid (w6.heap.size ≤ wr.heap.size)) := Lib.hid fun hno => by
            refine ⟨j + 1, D, cu, by omega, rfl, ?_, ?_, ?_, hbw, h6r⟩
            · rw [HPN.out hno]
            · rw [HPN.out hno]; exact HO
            · rw [HN.out hno]; exact HU
          by_cases h1 : (L.length : Int) < most
          · have hd1 : decide ((L.length : Int) < most) = true := decide_eq_true h1
            cases hA : hasB S.used a
            · cases hB : hasB S.used b'
              · have hyes := by have h9 := HQ.out; rw [hA, hB, hd1] at h9; exact h9
                have HE := Lib.hid (HY.out hyes)
                have HP := Lib.hid (HPY.out hyes)
                rw [hA] at ua
                rw [hB] at ub
                clear HN HY HQ NO HPN HPY hyes hA hB
                have na : (a : Int) < 40 := by omega
                have nb : (b' : Int) < 40 := by omega
                have nab : a ≠ b' := by omega
                have nu : ad6.block ≠ w4.heap.size + 1 := by omega
                have hrD := Lib.hid (fun q (hq : rowOf D = some q) => (row_ge HO.out q hq).1)
                have hoW : (World.drew ((wr.setCell ⟨w4.heap.size + 1, a, none⟩ (.bool true)).setCell ⟨w4.heap.size + 1, b', none⟩ (.bool true))).ownsRow w6.heap.size 26 1 (.slice D L.length cu) L.length (L.map fun k => zs[clN C.length k]?.getD (.slice none 0 0)) := row_keep HO.out fun q hl _ _ => (Below.heap_setCell _ ⟨w4.heap.size + 1, b', none⟩ _ q (show q ≠ w4.heap.size + 1 by omega)).trans (Below.heap_setCell _ ⟨w4.heap.size + 1, a, none⟩ _ q (show q ≠ w4.heap.size + 1 by omega))
                have hxW : (World.drew ((wr.setCell ⟨w4.heap.size + 1, a, none⟩ (.bool true)).setCell ⟨w4.heap.size + 1, b', none⟩ (.bool true))).heap[w4.heap.size + 1]? = some (.cells (usedA (S.used ++ [(a : Int), (b' : Int)])) 64 (0, 0)) := HX.out
                have hbW : Below w4.heap.size w4 (World.drew ((wr.setCell ⟨w4.heap.size + 1, a, none⟩ (.bool true)).setCell ⟨w4.heap.size + 1, b', none⟩ (.bool true))) := ((hbw.setCell (p := ⟨w4.heap.size + 1, a, none⟩) (Nat.le_succ _) _).setCell (p := ⟨w4.heap.size + 1, b', none⟩) (Nat.le_succ _) _).drew
                have hsW : (World.drew ((wr.setCell ⟨w4.heap.size + 1, a, none⟩ (.bool true)).setCell ⟨w4.heap.size + 1, b', none⟩ (.bool true))).heap.size = wr.heap.size := by simp [World.drew]
                have HoW := Lib.hid hoW
                have HxW := Lib.hid hxW
                have HbW := Lib.hid hbW
                have HsW := Lib.hid hsW
                clear hoW hxW hbW hsW
                go_wp2_with fail
                go_region
                generalize World.drew ((wr.setCell ⟨w4.heap.size + 1, a, none⟩ (.bool true)).setCell ⟨w4.heap.size + 1, b', none⟩ (.bool true)) = w7 at *
                have hs7 : w6.heap.size ≤ w7.heap.size := by have := HsW.out; omega
                have hoA := HoW.out
                have HxA := Lib.hid (box_below HxW.out (below_new w7 (.cells #[.slice (some ad6) 2 cc] 26)))
                have HbA := Lib.hid (HbW.out.alloc HbW.out.size (.cells #[.slice (some ad6) 2 cc] 26))
                clear p00 p11 q5 q4 ua ub fa fb HO HU HX HoW HxW
                go_wp2_with (at_builtin; refine wp_appII1 rfl _ _ rfl w6.heap.size D _ cu _ rfl hoA _ rfl (by simp) rfl (by omega) (by omega) ?_; intro D6 c6 w8 hown6 hg6)
                have hg6s := hg6.size
                have HX8 := Lib.hid ((hg6.block (w4.heap.size + 1) (by simp; omega) (fun e => by have := hrD.out _ e.symm; omega)).trans HxA.out)
                have HB8 := Lib.hid (HbA.out.grown hg6 (by simp; omega) (fun q hq => by have := hrD.out q hq; omega))
                have HO6 : Hid (w8.ownsRow w6.heap.size 26 1 (.slice D6 (L ++ [k]).length c6) (L ++ [k]).length ((L ++ [k]).map fun k => zs[clN C.length k]?.getD (.slice none 0 0))) := Lib.hid (by
                  rw [List.length_append, List.map_append, List.map_cons, List.map_nil, hzk.out]
                  exact hown6)
                have H68 : Hid (w6.heap.size ≤ w8.heap.size) := Lib.hid (by simp at hg6s; omega)
                clear hoA hown6 hg6 hg6s HxA HbA
                go_roundw
                case rel =>
                  refine ⟨j + 1, D6, c6, by omega, rfl, ?_, ?_, ?_, HB8.out, H68⟩
                  · rw [HP.out, List.length_append]; rfl
                  · rw [HP.out]; exact HO6
                  · rw [HE.out]; exact HX8
                case measure => simp [intOf]; omega
              · have HE := Lib.hid (NO.out (by rw [HQ.out, hB]; simp))
                rw [hB] at ub
                rw [hA] at ua
                clear HN HY HQ NO HPN HPY hA hB
                go_wp2
                go_roundw
                case rel => exact HE.out
                case measure => simp [intOf]; omega
            · have HE := Lib.hid (NO.out (by rw [HQ.out, hA]; simp))
              rw [hA] at ua
              clear HN HY HQ NO HPN HPY hA
              go_wp2
              go_roundw
              case rel => exact HE.out
              case measure => simp [intOf]; omega
          · have hd1 : decide ((L.length : Int) < most) = false := decide_eq_false h1
            have HE := Lib.hid (NO.out (by rw [HQ.out, hd1]; rfl))
            clear HN HY HQ NO HPN HPY
            go_wp2
            go_roundw
            case rel => exact HE.out
            case measure => simp [intOf]; omega
        · obtain rfl : j = C.length := by omega
          have hI := HPI.out C.length (Nat.le_refl _)
          have hln : (pkL C most ol C.length).length ≤ C.length := by have h8 := hI.len; have h9 := (spSt_len C most ol C.length).2.2; omega
          have hrD := Lib.hid (fun q (hq : rowOf D = some q) => (row_ge HO.out q hq).1)
          have hrow : ∀ k, k < C.length → ∃ (ad : Addr) (c : Nat) (a b : Int), (fun k : Nat => zs[k]?.getD (.slice none 0 0)) k = .slice (some ad) 2 c ∧ C[k]?.getD [] = [a, b] ∧ wr.cell? ad = some (.int .i64 a) ∧ wr.cell? ⟨ad.block, ad.off + 1, none⟩ = some (.int .i64 b) ∧ rowOf D ≠ some ad.block := fun k hkC => by
            obtain ⟨a, b', hab, _, _⟩ := HC.out k hkC
            obtain ⟨V, cc, e5, hV⟩ := HS.out.row k (Nat.zero_le _) hkC
            rw [show k * 1 + 0 = k by omega] at e5
            have hV1 := hV.ints
            simp only [hab] at e5 hV1
            obtain ⟨ad6, rfl, p0⟩ := hV1.at_ (show 0 < [(a : Int), (b' : Int)].length by simp)
            obtain ⟨ad6', e6, p1⟩ := hV1.at_ (show 1 < [(a : Int), (b' : Int)].length by simp)
            simp only [Option.some.injEq] at e6
            subst e6
            have p00 : w2.cell? ad6 = some (.int .i64 a) := by have := p0; simpa [Addr.add] using this
            have p11 : w2.cell? { block := ad6.block, off := ad6.off + 1, spot := none } = some (.int .i64 b') := by have := p1; simpa [Addr.add] using this
            refine ⟨ad6, cc, a, b', by show zs[k]?.getD _ = _; rw [e5]; rfl, hab, (bw2.out.cell (block_lt_of_cell p00)).trans p00, (bw2.out.cell (block_lt_of_cell p11)).trans p11, fun e => ?_⟩
            have h1 := hrD.out _ e
            have h2 := block_lt_of_cell p00
            omega
          have KS := sortRows_any D (pkL C most ol C.length).length cu w6.heap.size C.length C (fun k => zs[k]?.getD (.slice none 0 0)) (pkL C most ol C.length) wr rfl HAS.out hI.lt hI.nd (by omega) HO.out hrow
          have HIN := Lib.hid (planK_in hI rfl rfl)
          have hLn := Lib.hid (show (pkL C most ol C.length).length ≤ 60 by omega)
          clear hI hrow HO HU HPI HBD HI hln
          generalize (spSt C most ol C.length).ch = ch at *
          generalize pkL C most ol C.length = L at *
          go_wp2_with fail
          refine KS.mono ?_
          clear KS
          rintro e w9 ⟨rfl, l', h1, h2, h3, ho9, hg9⟩
          have el : l' = spK ch C.length := asc_unique _ _ h1 (spK_asc _ _) (fun k => (h2 k).trans (HIN.out k).symm)
          have HL := Lib.hid (show L.length = (spR C ch C.length).length by rw [spR_len, ← el]; exact h3.symm)
          have hb9 : Below w2.heap.size w2 w9 := bw2.out.grown hg9 (by omega) (fun q hq => by have := hrD.out q hq; omega)
          have hkl : (spK ch C.length).length = L.length := by rw [← el]; exact h3
          have HF := Lib.hid (show OwnII w9 w.heap.size w9.heap.size D (spR C ch C.length).length cu (fun t => (spR C ch C.length)[t]?.getD []) by
            rw [← HL.out]
            refine ⟨⟨_, row_mono ho9 (by omega), ?_⟩, fun q hq => (row_ge ho9 q hq).2, by have := hLn.out; omega⟩
            refine HS.out.pick (f := fun q => (spK ch C.length)[q]?.getD 0) (fun q h => spK_lt (by omega)) (fun i j hij hj => spK_mono hij (by omega)) (fun q h => ?_) (fun q h => spR_at (by omega)) (fun V m c xs hO => (hO.below hb9).fit (Nat.le_refl _))
            have hq : q < (spK ch C.length).length := by omega
            have hlt9 := spK_lt (ch := ch) (t := C.length) hq
            rw [el, List.getElem?_map, List.getElem?_eq_getElem hq] at *
            simp only [Option.map_some, Option.getD_some] at hlt9 ⊢
            rw [clN_id hlt9, List.getElem?_eq_getElem (by omega), Option.getD_some])
          have HB := Lib.hid (BB.trans (hb9.mono hs0))
          clear ho9 hg9 h1 h2 h3 el hkl hb9 HS HZ HIN
          go_wp2
          go_ret2
          exact ⟨D, cu, congrArg (fun q => Ending.returned (.tuple #[.slice D q cu, .bool true])) HL.out, HF.out, HB.out⟩
  · have R := Lib.hid (RL.out (by omega))
    obtain rfl : PV = none := R.out
    clear RL RE o2 R HSh
    have hl60 : 60 < C.length := by omega
    have B4 := Lib.hid BB
    clear BB
    go_wp2
    go_ret2
    exact ⟨none, 0, rfl, OwnII.nil_, B4.out⟩
end Go.Proofs.YtahbcnclhohnaaaGreat
