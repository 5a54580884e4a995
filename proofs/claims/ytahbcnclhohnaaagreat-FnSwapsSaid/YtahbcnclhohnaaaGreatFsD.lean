/- SwapRate of both sides; printed by gfd.py. -/
import Derived.Test.YtahbcnclhohnaaaGreatFsC
import Derived.Test.YtahbcnclhohnaaaGreatYa
import Derived.Test.YtahbcnclhohnaaaGreatZh
namespace Go.Proofs.YtahbcnclhohnaaaGreat
open Go.RowKit

/-- The rate of the records in pairs. -/
def srB (vs : List (ByteArray × Int)) (rs : List RecD) (R : List (List Int)) : Bool := dinB vs rs && (pairsB R rs.length && decide (0 < rs.length))
def srO (vs : List (ByteArray × Int)) (rs : List RecD) (R : List (List Int)) : Option (Int × Int) := if srB vs rs R = true then redO (dcnt (flI R R.length)) rs.length else none
theorem srO_no {vs : List (ByteArray × Int)} {rs : List RecD} {R : List (List Int)} (h : srB vs rs R = false) : srO vs rs R = none := by unfold srO; rw [if_neg (by simp [h])]
theorem usedA_one {L : List Int} {a : Nat} : (usedA L).setIfInBounds a (.bool true) = usedA (L ++ [(a : Int)]) := by
  have h := usedA_set (L := L) (a := a) (b := a)
  have e : ((usedA L).setIfInBounds a (Value.bool true)).setIfInBounds a (Value.bool true) = (usedA L).setIfInBounds a (Value.bool true) := by
    apply Array.ext_getElem?
    intro t
    rw [Array.getElem?_setIfInBounds, Array.getElem?_setIfInBounds, Array.size_setIfInBounds]
    split <;> rfl
  rw [e] at h
  rw [h]
  unfold usedA
  congr 1
  refine List.map_congr_left fun v _ => ?_
  rw [hasB_dec, hasB_dec]
  congr 1
  simp
theorem dcnt_yes {l : List Int} {a : Int} (h : hasB l a = true) : dcnt (l ++ [a]) = dcnt l := by rw [dcnt_snoc, if_pos (by rw [hasB_dec] at h; simpa using h)]; rfl
theorem dcnt_no {l : List Int} {a : Int} (h : hasB l a = false) : dcnt (l ++ [a]) = dcnt l + 1 := by rw [dcnt_snoc, if_neg (by rw [hasB_dec] at h; simpa using h)]
theorem usedA_in {l : List Int} {a : Int} (h : hasB l a = true) : usedA (l ++ [a]) = usedA l := by
  unfold usedA
  congr 1
  refine List.map_congr_left fun v _ => ?_
  rw [hasB_dec] at h ⊢
  rw [hasB_dec]
  congr 1
  have h := of_decide_eq_true h
  simp only [List.mem_append, List.mem_singleton]
  have h9 : ((v : Int) ∈ l ∨ (v : Int) = a) ↔ (v : Int) ∈ l := Iff.intro (fun h2 => Or.elim h2 id (fun e => e ▸ h)) Or.inl
  simp only [h9]

set_option maxRecDepth 100000 in
set_option maxHeartbeats 4000000 in
theorem implSwapRate_any (A B P : Option Addr) (n c m d cp : Nat) (vs : List (ByteArray × Int)) (rs : List RecD) (R : List (List Int)) (w : World) (hx : SchR w A n c vs) (hy : DatR w B m rs) (hr : IntsS w P R.length (fun t => R[t]?.getD [])) (hl : R.length ≤ 1099511627776) (hrl : ∀ t, t < R.length → (R[t]?.getD []).length ≤ 1099511627776) :
    Calls Tryz.prog 17 #[.slice A n c, .slice B m d, .slice P R.length cp] w fun e w' => e = .returned (.tuple #[.agg #[.int .i64 (fN (srO vs rs R)), .int .i64 (fD (srO vs rs R))], .bool (fB (srO vs rs R))]) ∧ Below w.heap.size w w' := by
  obtain ⟨O, hO⟩ : ∃ O, srO vs rs R = O := ⟨_, rfl⟩
  rw [hO]
  have HO := Lib.hid hO
  clear hO
  have hml : rs.length = m := hy.r.1
  have x0 := box_new w #[.int .i64 0, .int .i64 0] 46
  have b0 := below_new w (.cells #[.int .i64 0, .int .i64 0] 46)
  have HX := Lib.hid (hx.below b0)
  have HY := Lib.hid (hy.below b0)
  have HR := Lib.hid (hr.below b0)
  have X := Lib.hid x0
  have HR0 := Lib.hid hr
  have HB := Lib.hid b0
  have hRL := Lib.hid hrl
  have HML := Lib.hid hml
  clear hx hy hr x0 b0 hrl
  go_enter Tryz.func17, Tryz.ntmps17
  go_wp2_with fail
  generalize w.alloc (.cells #[.int .i64 0, .int .i64 0] 46) = w0 at *
  refine (IsSchema_any A n c vs _ HX.out.v HX.out.s HX.out.bd HX.out.cp).mono ?_
  rintro e w1 ⟨rfl, b1⟩
  replace HX := Lib.hid (HX.out.below b1)
  replace HY := Lib.hid (HY.out.below b1)
  replace HR := Lib.hid (HR.out.below b1)
  replace X := Lib.hid (box_below X.out b1)
  replace HB := Lib.hid (HB.out.trans (b1.mono HB.out.size))
  clear b1
  cases hs : schB vs
  case false =>
    have hno : srB vs rs R = false := by unfold srB dinB; rw [hs]; rfl
    obtain rfl : O = none := HO.out.symm.trans (srO_no hno)
    have px := X.out
    have lx := lt_of_block px
    have p0 := box_cell px 0 _ rfl
    have p1 := box_cell px 1 _ rfl
    have g0 := box_free px 0
    have g1 := box_free px 1
    have rx := box_set (box_set px 0 (.int .i64 0)) 1 (.int .i64 0)
    have r0 := box_cell rx 0 (.int .i64 0) rfl
    have r1 := box_cell rx 1 (.int .i64 0) rfl
    have FB := Lib.hid ((HB.out.setCell (p := ⟨w.heap.size, 0, none⟩) (Nat.le_refl _) (.int .i64 0)).setCell (p := ⟨w.heap.size, 1, none⟩) (Nat.le_refl _) (.int .i64 0))
    clear px rx X HB HX HY HR hno HO
    go_wp2
    exact bodyPost_ret (v := .tuple #[.agg #[.int .i64 0, .int .i64 0], .bool false]) (by simp [results, Tryz.results17, go_sem, r0, r1]) rfl ⟨rfl, FB.out⟩
  go_wp2_with fail
  refine (isData_any A B n c m d vs rs _ HX.out HY.out).mono ?_
  rintro e w2 ⟨rfl, b2⟩
  replace HX := Lib.hid (HX.out.below b2)
  replace HY := Lib.hid (HY.out.below b2)
  replace HR := Lib.hid (HR.out.below b2)
  replace X := Lib.hid (box_below X.out b2)
  replace HB := Lib.hid (HB.out.trans (b2.mono HB.out.size))
  clear b2
  cases hd : dataB vs rs
  case false =>
    have hno : srB vs rs R = false := by unfold srB dinB; rw [hs, hd]; rfl
    obtain rfl : O = none := HO.out.symm.trans (srO_no hno)
    have px := X.out
    have lx := lt_of_block px
    have p0 := box_cell px 0 _ rfl
    have p1 := box_cell px 1 _ rfl
    have g0 := box_free px 0
    have g1 := box_free px 1
    have rx := box_set (box_set px 0 (.int .i64 0)) 1 (.int .i64 0)
    have r0 := box_cell rx 0 (.int .i64 0) rfl
    have r1 := box_cell rx 1 (.int .i64 0) rfl
    have FB := Lib.hid ((HB.out.setCell (p := ⟨w.heap.size, 0, none⟩) (Nat.le_refl _) (.int .i64 0)).setCell (p := ⟨w.heap.size, 1, none⟩) (Nat.le_refl _) (.int .i64 0))
    clear px rx X HB HX HY HR hno HO
    go_wp2
    exact bodyPost_ret (v := .tuple #[.agg #[.int .i64 0, .int .i64 0], .bool false]) (by simp [results, Tryz.results17, go_sem, r0, r1]) rfl ⟨rfl, FB.out⟩
  have hdin : dinB vs rs = true := by unfold dinB; rw [hs, hd]; rfl
  have hm40 : m ≤ 40 := by have h := hd; unfold dataB at h; simp only [Bool.and_eq_true, decide_eq_true_eq] at h; omega
  by_cases hm0 : m = 0
  case pos =>
    have hz : ((m : Int) == 0) = true := by rw [hm0]; rfl
    have hno : srB vs rs R = false := by unfold srB; rw [hml, hm0]; simp
    obtain rfl : O = none := HO.out.symm.trans (srO_no hno)
    have px := X.out
    have lx := lt_of_block px
    have p0 := box_cell px 0 _ rfl
    have p1 := box_cell px 1 _ rfl
    have g0 := box_free px 0
    have g1 := box_free px 1
    have rx := box_set (box_set px 0 (.int .i64 0)) 1 (.int .i64 0)
    have r0 := box_cell rx 0 (.int .i64 0) rfl
    have r1 := box_cell rx 1 (.int .i64 0) rfl
    have FB := Lib.hid ((HB.out.setCell (p := ⟨w.heap.size, 0, none⟩) (Nat.le_refl _) (.int .i64 0)).setCell (p := ⟨w.heap.size, 1, none⟩) (Nat.le_refl _) (.int .i64 0))
    clear px rx X HB HX HY HR hno HO
    go_wp2
    exact bodyPost_ret (v := .tuple #[.agg #[.int .i64 0, .int .i64 0], .bool false]) (by simp [results, Tryz.results17, go_sem, r0, r1]) rfl ⟨rfl, FB.out⟩
  have hz : ((m : Int) == 0) = false := by rw [beq_eq_false_iff_ne]; omega
  go_wp2_with fail
  refine (arePairs_any P cp m R _ HR.out hl hRL.out).mono ?_
  rintro e w3 ⟨rfl, b3⟩
  replace HX := Lib.hid (HX.out.below b3)
  replace HY := Lib.hid (HY.out.below b3)
  replace HR := Lib.hid (HR.out.below b3)
  replace X := Lib.hid (box_below X.out b3)
  replace HB := Lib.hid (HB.out.trans (b3.mono HB.out.size))
  clear b3
  cases hpb : pairsB R m
  case false =>
    have hno : srB vs rs R = false := by unfold srB; rw [hml, hpb]; simp
    obtain rfl : O = none := HO.out.symm.trans (srO_no hno)
    have px := X.out
    have lx := lt_of_block px
    have p0 := box_cell px 0 _ rfl
    have p1 := box_cell px 1 _ rfl
    have g0 := box_free px 0
    have g1 := box_free px 1
    have rx := box_set (box_set px 0 (.int .i64 0)) 1 (.int .i64 0)
    have r0 := box_cell rx 0 (.int .i64 0) rfl
    have r1 := box_cell rx 1 (.int .i64 0) rfl
    have FB := Lib.hid ((HB.out.setCell (p := ⟨w.heap.size, 0, none⟩) (Nat.le_refl _) (.int .i64 0)).setCell (p := ⟨w.heap.size, 1, none⟩) (Nat.le_refl _) (.int .i64 0))
    clear px rx X HB HX HY HR hno HO
    go_wp2
    exact bodyPost_ret (v := .tuple #[.agg #[.int .i64 0, .int .i64 0], .bool false]) (by simp [results, Tryz.results17, go_sem, r0, r1]) rfl ⟨rfl, FB.out⟩
  have HROW := Lib.hid (pairsB_of hpb).2
  have h20 := (pairsB_of hpb).1
  have HFN := Lib.hid (fun j hj => flI_len hpb j hj)
  have HSR : Hid (srO vs rs R = redO (dcnt (flI R R.length)) m) := Lib.hid (by unfold srO; rw [if_pos (by unfold srB; rw [hdin, hml, hpb, decide_eq_true (show 0 < m by omega)]; rfl), hml])
  clear hs hd hdin hpb hml
  have X1 := Lib.hid (box_new w3 (usedA []) 64)
  have bu := below_new w3 (.cells (usedA []) 64)
  have sw3 := HB.out.size
  have HLT := Lib.hid (lt_of_block X.out)
  replace HR := Lib.hid (HR.out.below bu)
  replace X := Lib.hid (box_below X.out bu)
  replace HB := Lib.hid (HB.out.trans (bu.mono HB.out.size))
  clear bu
  have HC0 : Hid (usedA [] = #[.bool false, .bool false, .bool false, .bool false, .bool false, .bool false, .bool false, .bool false, .bool false, .bool false, .bool false, .bool false, .bool false, .bool false, .bool false, .bool false, .bool false, .bool false, .bool false, .bool false, .bool false, .bool false, .bool false, .bool false, .bool false, .bool false, .bool false, .bool false, .bool false, .bool false, .bool false, .bool false, .bool false, .bool false, .bool false, .bool false, .bool false, .bool false, .bool false, .bool false]) := Lib.hid rfl
  go_wp2_with fail
  rw [← HC0.out]
  clear HC0
  obtain ⟨gb, hgb⟩ : ∃ gb, Hid (w3.heap.size = gb) := ⟨_, Lib.hid rfl⟩
  rw [hgb.out] at X1 ⊢
  have hgw : w.heap.size < gb := by rw [← hgb.out]; exact HLT.out
  generalize w3.alloc (.cells (usedA []) 64) = w4 at *
  clear hgb sw3 HLT
  go_loopw [9, 38] (fun nv i wr => ∃ (j : Nat), j ≤ R.length ∧ i = .int .i64 j ∧ nv = .int .i64 (dcnt (flI R j) : Nat) ∧ Hid (wr.heap[gb]? = some (.cells (usedA (flI R j)) 64 (0, 0))) ∧ Hid (wr.heap[w.heap.size]? = some (.cells #[.int .i64 0, .int .i64 0] 46 (0, 0))) ∧ Hid (Below w4.heap.size w4 w4) ∧ Hid (Below w.heap.size w wr)) (fun _ i _ => R.length - (intOf i).toNat)
  case atStart => exact ⟨0, Nat.zero_le _, rfl, rfl, X1, X, Lib.hid (Below.refl _ _), HB⟩
  case round =>
    clear X1 X HB
    obtain ⟨j, hj, rfl, rfl, HU, X, _, HB⟩ := hrel
    by_cases hlt : j < R.length
    case pos =>
      obtain ⟨ad, rfl, V, cc, q5w, hVw⟩ := HR0.out.at_ hlt
      have q5 := (HB.out.cell (block_lt_of_cell q5w)).trans q5w
      obtain ⟨a, b, hrw, hab, hbm⟩ := HROW.out j hlt
      have hfl := HFN.out j hj
      have HFL : Hid (flI R (j + 1) = flI R j ++ (R[j]?.getD [])) := Lib.hid rfl
      replace hVw : Ints w V (R[j]?.getD []).length (R[j]?.getD []) := hVw
      replace q5 : wr.cell? (ad.add j) = some (.slice V (R[j]?.getD []).length cc) := q5
      generalize R[j]?.getD [] = r at *
      subst hrw
      replace q5 : wr.cell? (ad.add j) = some (.slice V 2 cc) := q5
      generalize flI R j = fl at *
      have HVw := Lib.hid hVw
      clear hVw q5w
      go_wp2_with fail
      go_loopw [9, 44] (fun nv i wq => ∃ (t : Nat), t ≤ 2 ∧ i = .int .i64 t ∧ nv = .int .i64 (dcnt (fl ++ [(a : Int), (b : Int)].take t) : Nat) ∧ Hid (wq.heap[gb]? = some (.cells (usedA (fl ++ [(a : Int), (b : Int)].take t)) 64 (0, 0))) ∧ Hid (wq.heap[w.heap.size]? = some (.cells #[.int .i64 0, .int .i64 0] 46 (0, 0))) ∧ Hid (Below w.heap.size w wq)) (fun _ i _ => 2 - (intOf i).toNat)
      case atStart => exact ⟨0, Nat.zero_le _, rfl, by simp, by simpa using HU, X, HB⟩
      case round =>
        clear HU X HB q5
        obtain ⟨t, ht, rfl, rfl, HU, X, HB⟩ := hrel
        by_cases htl : t < 2
        case pos =>
          obtain ⟨x, hx, hx40⟩ : ∃ x : Nat, [(a : Int), (b : Int)][t]? = some (x : Int) ∧ x < 40 := by
            rcases (by omega : t = 0 ∨ t = 1) with rfl | rfl
            · exact ⟨a, rfl, by omega⟩
            · exact ⟨b, rfl, by omega⟩
          have HTK : Hid (fl ++ [(a : Int), (b : Int)].take (t + 1) = fl ++ [(a : Int), (b : Int)].take t ++ [(x : Int)]) := Lib.hid (by rw [List.take_add_one, hx, List.append_assoc]; rfl)
          have hln : (fl ++ [(a : Int), (b : Int)].take t).length ≤ 42 := by rw [List.length_append]; have := List.length_take_le t [(a : Int), (b : Int)]; omega
          obtain ⟨ad6, rfl, p0⟩ := (HVw.out.below HB.out).at_ (show t < [(a : Int), (b : Int)].length by simpa using htl)
          rw [hx] at p0
          replace p0 : wr.cell? (ad6.add t) = some (.int .i64 x) := p0
          generalize fl ++ [(a : Int), (b : Int)].take t = L at *
          have hdl := dcnt_le L
          have ux := box_cell HU.out x _ (usedA_at (L := L) hx40)
          have x0 : (0 : Int) ≤ (x : Int) := by omega
          have x40 : (x : Int) < 40 := by omega
          clear hx
          cases hA : hasB L (x : Int)
          case false =>
            rw [hA] at ux
            have fx := box_free HU.out x
            have HN := Lib.hid (dcnt_no hA)
            have HX9 := Lib.hid (box_set HU.out x (.bool true))
            rw [usedA_one] at HX9
            have hX2 : Hid ((wr.setCell ⟨gb, x, none⟩ (.bool true)).heap[w.heap.size]? = some (.cells #[.int .i64 0, .int .i64 0] 46 (0, 0))) := Lib.hid ((Below.heap_setCell wr ⟨gb, x, none⟩ _ _ (by show w.heap.size ≠ gb; omega)).trans X.out)
            have HB2 : Hid (Below w.heap.size w (wr.setCell ⟨gb, x, none⟩ (.bool true))) := Lib.hid (HB.out.setCell (p := ⟨gb, x, none⟩) (Nat.le_of_lt hgw) _)
            have lx := lt_of_block HU.out
            clear hA HU X HB
            go_wp2
            go_roundw
            case rel => exact ⟨t + 1, by omega, by go_num, by rw [HTK.out, HN.out]; go_num, by rw [HTK.out]; exact HX9, hX2, HB2⟩
            case measure => simp [intOf]; omega
          case true =>
            rw [hA] at ux
            have HN := Lib.hid (dcnt_yes hA)
            have HUI := Lib.hid (usedA_in hA)
            clear hA
            go_wp2
            go_roundw
            case rel => exact ⟨t + 1, by omega, by go_num, by rw [HTK.out, HN.out], by rw [HTK.out, HUI.out]; exact HU, X, HB⟩
            case measure => simp [intOf]; omega
        case neg =>
          obtain rfl : t = 2 := by omega
          have hrel9 : (fl ++ [(a : Int), (b : Int)].take 2) = flI R (j + 1) := by rw [HFL.out]; rfl
          rw [hrel9] at HU ⊢
          clear hrel9
          go_wp2
          go_roundw
          case rel => exact ⟨j + 1, by omega, by go_num, rfl, HU, X, Lib.hid (Below.refl _ _), HB⟩
          case measure => simp [intOf]; omega
    case neg =>
      obtain rfl : j = R.length := by omega
      have hfl := HFN.out R.length (Nat.le_refl _)
      have hdl := dcnt_le (flI R R.length)
      obtain ⟨N, hN⟩ : ∃ N : Int, ((dcnt (flI R R.length) : Nat) : Int) = N := ⟨_, rfl⟩
      rw [hN] at HSR ⊢
      have hN0 : 0 ≤ N ∧ N ≤ 40 := by omega
      clear hN hfl hdl HU
      go_wp2_with fail
      refine (reduced_any N m _ (by omega) (by omega) (by omega) (by omega) (by omega)).mono ?_
      rintro e w9 ⟨rfl, b9⟩
      replace X := Lib.hid (box_below X.out b9)
      replace HB := Lib.hid (HB.out.trans (b9.mono HB.out.size))
      clear b9
      have px := X.out
      have lx := lt_of_block px
      have p0 := box_cell px 0 _ rfl
      have p1 := box_cell px 1 _ rfl
      have g0 := box_free px 0
      have g1 := box_free px 1
      have HOE := Lib.hid (HSR.out.symm.trans HO.out)
      rw [HOE.out]
      have rx := box_set (box_set px 0 (.int .i64 (fN O))) 1 (.int .i64 (fD O))
      have r0 := box_cell rx 0 (.int .i64 (fN O)) rfl
      have r1 := box_cell rx 1 (.int .i64 (fD O)) rfl
      have FB := Lib.hid ((HB.out.setCell (p := ⟨w.heap.size, 0, none⟩) (Nat.le_refl _) (.int .i64 (fN O))).setCell (p := ⟨w.heap.size, 1, none⟩) (Nat.le_refl _) (.int .i64 (fD O)))
      clear px rx X HB
      go_wp2
      exact bodyPost_ret (v := .tuple #[.agg #[.int .i64 (fN O), .int .i64 (fD O)], .bool (fB O)]) (by simp [results, Tryz.results17, go_sem, r0, r1]) rfl ⟨rfl, FB.out⟩
end Go.Proofs.YtahbcnclhohnaaaGreat
