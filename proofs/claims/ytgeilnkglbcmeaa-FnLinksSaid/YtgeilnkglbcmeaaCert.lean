/- The certain links, of the program and of the reference. -/
import Derived.Test.YtgeilnkglbcmeaaZh
namespace Go.Proofs.Ytgeilnkglbcmeaa
open Go.RowKit

def clR (vs : List (ByteArray × Int)) (rs qs : List RecD) (us : List Int) : List (List Int) := if linkedB vs rs qs us = true then pairsL (setL vs us rs qs) rs.length rs.length else []
def RetLL (w : World) (R : List (List Int)) (b : Bool) (e : Ending) (w' : World) : Prop :=
  ∃ A' c', e = .returned (.tuple #[.slice A' R.length c', .bool b]) ∧ OwnII w' w.heap.size w'.heap.size A' R.length c' (fun t => R[t]?.getD []) ∧ Below w.heap.size w w'

theorem flatS_len {S : Nat → List Int} (h : ∀ i, (S i).length ≤ 40) (i : Nat) : (flatS S i).length ≤ 40 * i := by
  induction i with
  | zero => simp [flatS]
  | succ i ih => rw [flatS_succ, List.length_append]; have := h i; omega

set_option maxRecDepth 100000 in
set_option maxHeartbeats 4000000 in
theorem implCertainLinks_law (A B C U : Option Addr) (n c m d m2 d2 l k' : Nat) (vs : List (ByteArray × Int)) (rs qs : List RecD) (us : List Int) (w : World) (hx : SchR w A n c vs) (hy : DatR w B m rs) (hz : DatR w C m2 qs) (hu : IntR w U l us) :
    Calls Try.prog 44 #[.slice A n c, .slice B m d, .slice C m2 d2, .slice U l k'] w (RetLL w (clR vs rs qs us) (linkedB vs rs qs us)) := by
  have hlen := hx.len
  cases hB : linkedB vs rs qs us
  · have HB := Lib.hid hB
    have HN : Hid (clR vs rs qs us = []) := Lib.hid (by rw [clR, if_neg (by simp [hB])])
    rw [HN.out]
    clear hB hlen
    go_enter Try.func44, Try.ntmps44
    go_wp2_with fail
    refine (areLinked_any _ _ _ _ n _ m _ m2 _ l _ vs rs qs us _ hx hy hz hu).mono ?_
    rintro e w1 ⟨rfl, b1⟩
    rw [HB.out]
    have B1 := Lib.hid b1
    clear b1 hx hy hz hu
    go_wp2
    go_ret2
    exact ⟨none, 0, rfl, OwnII.nil_, B1.out⟩
  have HB := Lib.hid hB
  obtain ⟨hk, hk2⟩ := linked_all hlen hB
  have hm40 : m ≤ 40 := by have := hk.forty; rw [hy.len] at this; exact this
  have hm240 : m2 ≤ 40 := by have := hk2.forty; rw [hz.len] at this; exact this
  have hml := Lib.hid hy.len
  have hzl := Lib.hid hz.len
  have HN : Hid (clR vs rs qs us = pairsL (setL vs us rs qs) m m) := Lib.hid (by rw [clR, if_pos hB, hml.out])
  rw [HN.out]
  have HE := Lib.hid (fun i t (h : t < (setL vs us rs qs i).length) => (show ∃ k, k < m2 ∧ (setL vs us rs qs i)[t]?.getD 0 = ((k : Nat) : Int) from by
    obtain ⟨k, h1, h2, _⟩ := linkK_at (p := lnk vs us rs qs i) (n := qs.length) (i := t) h
    exact ⟨k, by rw [← hzl.out]; exact h1, h2⟩))
  have HLE := Lib.hid (fun i => (show (setL vs us rs qs i).length ≤ 40 by have := linkK_len (lnk vs us rs qs i) qs.length; rw [hzl.out] at this; unfold setL; rw [hzl.out]; omega))
  clear hB hlen
  go_enter Try.func44, Try.ntmps44
  go_wp2_with fail
  refine (areLinked_any _ _ _ _ n _ m _ m2 _ l _ vs rs qs us _ hx hy hz hu).mono ?_
  rintro e w0 ⟨rfl, b0⟩
  rw [HB.out]
  go_wp2_with fail
  refine (linkSets_any _ _ _ _ n _ m _ m2 _ l _ vs rs qs us _ (hx.below b0) (hy.below b0) (hz.below b0) (hu.below b0) hk hk2).mono ?_
  rintro e w1 ⟨A1, c1, rfl, o1, b1⟩
  have HB1 := Lib.hid (b0.trans (b1.mono b0.size))
  have O1 := Lib.hid o1.read
  clear hx hy hz hu b0 b1 o1 hk hk2 hzl HN
  generalize setL vs us rs qs = S at *
  have hbx := box_new w1 (cntA []) 121
  have HB2 := Lib.hid (below_new w1 (.cells (cntA []) 121))
  have X2 := Lib.hid hbx
  clear hbx
  have HC0 : Hid (cntA [] = #[.int .i64 0, .int .i64 0, .int .i64 0, .int .i64 0, .int .i64 0, .int .i64 0, .int .i64 0, .int .i64 0, .int .i64 0, .int .i64 0, .int .i64 0, .int .i64 0, .int .i64 0, .int .i64 0, .int .i64 0, .int .i64 0, .int .i64 0, .int .i64 0, .int .i64 0, .int .i64 0, .int .i64 0, .int .i64 0, .int .i64 0, .int .i64 0, .int .i64 0, .int .i64 0, .int .i64 0, .int .i64 0, .int .i64 0, .int .i64 0, .int .i64 0, .int .i64 0, .int .i64 0, .int .i64 0, .int .i64 0, .int .i64 0, .int .i64 0, .int .i64 0, .int .i64 0, .int .i64 0]) := Lib.hid rfl
  go_wp2_with fail
  rw [← HC0.out]
  clear HC0
  generalize w1.alloc (.cells (cntA []) 121) = w2 at *
  go_loopw [32] (fun i wr => ∃ j : Nat, j ≤ m ∧ i = .int .i64 j ∧ Hid (wr.heap[w1.heap.size]? = some (.cells (cntA (flatS S j)) 121 (0, 0))) ∧ Hid (Below w1.heap.size w1 wr)) (fun i _ => m - (intOf i).toNat)
  case atStart => exact ⟨0, Nat.zero_le _, rfl, X2, HB2⟩
  case round =>
    clear X2 HB2
    obtain ⟨j, hj, rfl, X, HB3⟩ := hrel
    obtain ⟨w3, rfl⟩ : ∃ w3 : World, w3 = wr := ⟨_, rfl⟩
    by_cases hlt : j < m
    · obtain ⟨ad, rfl, V, cv, hc1, hv⟩ := O1.out.at_ hlt
      have hc := (HB3.out.cell (block_lt_of_cell hc1)).trans hc1
      have HV := Lib.hid hv
      have hle := HLE.out j
      have hfl := flatS_len HLE.out j
      obtain ⟨ln, hln⟩ : ∃ ln, Hid ((S j).length = ln) := ⟨_, Lib.hid rfl⟩
      rw [hln.out] at hc hle
      have HV2 : Hid (Ints w1 V ln (S j)) := Lib.hid (by rw [← hln.out]; exact HV.out)
      clear hv HV hc1
      have X' : Hid (w3.heap[w1.heap.size]? = some (.cells (cntA (flatS S j ++ (S j).take 0)) 121 (0, 0))) := Lib.hid (by rw [List.take_zero, List.append_nil]; exact X.out)
      clear X
      go_wp2_with fail
      clear hc
      go_loopw [38] (fun i wq => ∃ t : Nat, t ≤ ln ∧ i = .int .i64 t ∧ Hid (wq.heap[w1.heap.size]? = some (.cells (cntA (flatS S j ++ (S j).take t)) 121 (0, 0))) ∧ Hid (Below w1.heap.size w1 wq)) (fun i _ => ln - (intOf i).toNat)
      case atStart => exact ⟨0, Nat.zero_le _, rfl, X', HB3⟩
      case round =>
        clear X' HB3
        obtain ⟨t, ht, rfl, X, HB3⟩ := hrel
        by_cases htl : t < ln
        · obtain ⟨av, rfl, hcv⟩ := (HV2.out.below HB3.out).at_ htl
          obtain ⟨k, hk2, hke⟩ := HE.out j t (by rw [hln.out]; exact htl)
          rw [hke] at hcv
          have hk40 : k < 40 := by omega
          have HT := Lib.hid (show flatS S j ++ (S j).take (t + 1) = (flatS S j ++ (S j).take t) ++ [(k : Int)] by
            rw [List.take_succ_eq_append_getElem (by rw [hln.out]; exact htl), List.append_assoc]
            have e : (S j)[t]'(by rw [hln.out]; exact htl) = (k : Int) := by
              have := hke
              rw [List.getElem?_eq_getElem (by rw [hln.out]; exact htl)] at this
              exact this
            rw [e])
          have hcnt : (flatS S j ++ (S j).take t).count (k : Int) ≤ 2000 := by
            have h1 := List.count_le_length (a := (k : Int)) (l := flatS S j ++ (S j).take t)
            rw [List.length_append, List.length_take] at h1
            omega
          generalize flatS S j ++ (S j).take t = Fl at *
          have hcell := box_cell X.out k (.int .i64 ((Fl.count (k : Int) : Nat) : Int)) (cntA_at hk40)
          have hfree := box_free X.out k
          have X5 := Lib.hid (box_set X.out k (.int .i64 (((Fl.count (k : Int) : Nat) : Int) + 1)))
          rw [cntA_set, ← HT.out] at X5
          have HB5 := Lib.hid (HB3.out.setCell (p := ⟨w1.heap.size, k, none⟩) (Nat.le_refl _) (.int .i64 (((Fl.count (k : Int) : Nat) : Int) + 1)))
          clear hke HT X HB3
          generalize Fl.count (k : Int) = cn at *
          go_wp2
          go_roundw
          case rel => exact ⟨t + 1, by omega, by go_num, X5, HB5⟩
          case measure => simp [intOf]; omega
        · obtain rfl : t = ln := by omega
          have X5 : Hid (wr.heap[w1.heap.size]? = some (.cells (cntA (flatS S (j + 1))) 121 (0, 0))) := Lib.hid (by rw [flatS_succ]; have := X.out; rw [List.take_of_length_le (by rw [hln.out]; omega)] at this; exact this)
          clear X
          go_wp2
          go_roundw
          case rel => exact ⟨j + 1, by omega, by go_num, X5, HB3⟩
          case measure => simp [intOf]; omega
    · obtain rfl : m = j := by omega
      clear hj hlt
      have HBw := Lib.hid (HB1.out.trans (HB3.out.mono HB1.out.size))
      have O3 := Lib.hid (O1.out.below HB3.out)
      have hx3 : w1.heap.size < w3.heap.size := lt_of_block X.out
      clear O1 HB3 HB1
      have hflm := flatS_len HLE.out m
      go_wp2_with fail
      go_loopw [16, 51] (fun a i wr => ∃ (j : Nat) (D : Option Addr) (c3 : Nat) (ys : List Value), j ≤ m ∧ i = .int .i64 j ∧ a = .slice D (pairsL S m j).length c3 ∧ Hid (wr.ownsRow w3.heap.size 27 1 (.slice D (pairsL S m j).length c3) (pairsL S m j).length ys) ∧ Hid (Sub wr w3.heap.size wr.heap.size ys 1 0 (fun t => (pairsL S m j)[t]?.getD []) 0 (pairsL S m j).length) ∧ Hid (Below w3.heap.size w3 wr)) (fun _ i _ => m - (intOf i).toNat)
      case atStart => exact ⟨0, none, 0, [], Nat.zero_le _, rfl, rfl, Lib.hid (World.ownsRow_nil _ _ _ _), Lib.hid ⟨fun j _ h => absurd h (by simp [pairsL, linkK]), fun i j g _ h1 h2 => absurd h2 (by simp [pairsL, linkK])⟩, Lib.hid (Below.refl _ _)⟩
      case round =>
        obtain ⟨j, D, c3, ys, hj, rfl, rfl, HO, HS, HB4⟩ := hrel
        obtain ⟨wo, rfl⟩ : ∃ wo : World, wo = wr := ⟨_, rfl⟩
        by_cases hlt : j < m
        · obtain ⟨ad, rfl, V, cv, hc, hv⟩ := (O3.out.below HB4.out).at_ hlt
          have X4 := Lib.hid (box_below X.out HB4.out)
          by_cases h1 : (S j).length = 1
          · obtain ⟨av, rfl, hcv⟩ := hv.at_ (k := 0) (by omega)
            obtain ⟨e0, he2, he⟩ := HE.out j 0 (by omega)
            rw [he] at hcv
            have hav : av.add 0 = av := by unfold Addr.add; simp
            rw [hav] at hcv
            have HE0 := Lib.hid he
            have hcell := box_cell X4.out e0 (.int .i64 (((flatS S m).count (e0 : Int) : Nat) : Int)) (cntA_at (by omega))
            have hci := cert_iff hlt h1
            rw [he] at hci
            have HCI := Lib.hid hci
            have hcb : (flatS S m).count (e0 : Int) ≤ 2000 := by have := List.count_le_length (a := (e0 : Int)) (l := flatS S m); omega
            rw [h1] at hc
            clear hv he hci hav h1
            generalize (flatS S m).count (e0 : Int) = cn at *
            by_cases hcn : cn = 1
            · have HC := Lib.hid (HCI.out.1 hcn)
              have hq : ((cn : Int) == 1) = true := by simp [hcn]
              have he40 : e0 < 40 := by omega
              clear hcn
              have PY := Lib.hid (pairsL_yes (S := S) (m := m) (i := j) HC.out)
              rw [HE0.out] at PY
              have PL := Lib.hid (show (pairsL S m (j + 1)).length = (pairsL S m j).length + 1 by rw [PY.out]; simp)
              have hpl := pairsL_len S m j
              have hszW := HB4.out.size
              have bA := below_new wo (.cells #[.int .i64 (j : Int), .int .i64 (e0 : Int)] 3)
              have oA : Own (wo.alloc (.cells #[.int .i64 (j : Int), .int .i64 (e0 : Int)] 3)) w3.heap.size (some ⟨wo.heap.size, 0, none⟩) 2 2 [(j : Int), (e0 : Int)] := (own_new wo [(j : Int), (e0 : Int)] 2 rfl (by omega)).mono hszW
              have hoA := row_below HO.out bA
              have hszA := bA.size
              have hsnoc := Lib.hid (fun (w6 : World) (D6 : Option Addr) (c6 : Nat) (hg : ((wo.alloc (.cells #[.int .i64 (j : Int), .int .i64 (e0 : Int)] 3)).alloc (.cells #[.slice (some ⟨wo.heap.size, 0, none⟩) 2 2] 27)).grownBy w6 (rowOf D)) => HS.out.snoc (r := [(j : Int), (e0 : Int)]) (rc := 2) (rn := 2) (by have := HO.out.1; omega) rfl (bA.alloc bA.size _) (oA.below (below_new _ _)) rfl (by omega) (Nat.le_refl _) (row_below hoA (below_new _ _)) hg)
              have HBA := Lib.hid (HB4.out.alloc hszW (.cells #[.int .i64 (j : Int), .int .i64 (e0 : Int)] 3))
              have hr1 := Lib.hid (fun g hg => (World.ownsRow.lt HO.out g (by simpa [ownBlock_row] using hg)).1)
              clear oA
              go_wp2_with (at_builtin; refine wp_appII1 rfl _ _ rfl w3.heap.size D _ c3 ys rfl hoA _ rfl (by simp) rfl (by omega) (by simp; omega) ?_; intro D6 c6 w6 hown6 hg6)
              have S6 := Lib.hid (hsnoc.out w6 D6 c6 hg6)
              have HB6 := Lib.hid ((HBA.out.alloc (by simp; omega) (.cells #[.slice (some ⟨wo.heap.size, 0, none⟩) 2 2] 27)).grown hg6 (by simp; omega) hr1.out)
              have HO6 := Lib.hid hown6
              clear hoA bA hown6 hg6 hsnoc HBA
              go_wp2
              go_roundw
              case rel => exact ⟨j + 1, D6, c6, _, by omega, by go_num, by rw [PL.out], by rw [PL.out]; exact HO6, by rw [PL.out, PY.out]; exact S6, HB6⟩
              case measure => simp [intOf]; omega
            · have HC := Lib.hid (pairsL_no (S := S) (m := m) (i := j) (by
                cases hb : certB S m j
                · rfl
                · exact absurd (HCI.out.2 hb) hcn))
              have hq : ((cn : Int) == 1) = false := by rw [beq_eq_false_iff_ne]; omega
              have he40 : e0 < 40 := by omega
              clear hcn
              go_wp2
              go_roundw
              case rel => exact ⟨j + 1, D, c3, ys, by omega, by go_num, by rw [HC.out], by rw [HC.out]; exact HO, by rw [HC.out]; exact HS, HB4⟩
              case measure => simp [intOf]; omega
          · have HC := Lib.hid (pairsL_no (S := S) (m := m) (i := j) (certB_no h1))
            have hll := HLE.out j
            have hq : (((S j).length : Int) == 1) = false := by rw [beq_eq_false_iff_ne]; omega
            generalize (S j).length = lj at *
            clear h1
            go_wp2
            go_roundw
            case rel => exact ⟨j + 1, D, c3, ys, by omega, by go_num, by rw [HC.out], by rw [HC.out]; exact HO, by rw [HC.out]; exact HS, HB4⟩
            case measure => simp [intOf]; omega
        · obtain rfl : j = m := by omega
          have hpl := pairsL_len S j j
          go_wp2
          go_ret2
          refine ⟨D, c3, rfl, ?_, HBw.out.trans (HB4.out.mono HBw.out.size)⟩
          exact (show OwnII wo w3.heap.size wo.heap.size D (pairsL S j j).length c3 (fun t => (pairsL S j j)[t]?.getD []) from ⟨⟨ys, HO.out, HS.out⟩, fun g hg => (World.ownsRow.lt HO.out g (by simpa [ownBlock_row] using hg)).2, by omega⟩).fit HBw.out.size

set_option maxRecDepth 100000 in
set_option maxHeartbeats 4000000 in
theorem specCertainLinks_law (A B C U : Option Addr) (n c m d m2 d2 l k' : Nat) (vs : List (ByteArray × Int)) (rs qs : List RecD) (us : List Int) (w : World) (hx : SchR w A n c vs) (hy : DatR w B m rs) (hz : DatR w C m2 qs) (hu : IntR w U l us) :
    Calls Try.prog 45 #[.slice A n c, .slice B m d, .slice C m2 d2, .slice U l k'] w (RetLL w (clR vs rs qs us) (linkedB vs rs qs us)) := by
  have hlen := hx.len
  cases hB : linkedB vs rs qs us
  · have HB := Lib.hid hB
    have HN : Hid (clR vs rs qs us = []) := Lib.hid (by rw [clR, if_neg (by simp [hB])])
    rw [HN.out]
    clear hB hlen
    go_enter Try.func45, Try.ntmps45
    go_wp2_with fail
    refine (liTwo_any _ _ _ _ n _ m _ m2 _ l _ vs rs qs us _ hx hy hz hu).mono ?_
    rintro e w1 ⟨rfl, b1⟩
    rw [HB.out]
    have B1 := Lib.hid b1
    clear b1 hx hy hz hu
    go_wp2
    go_ret2
    exact ⟨none, 0, rfl, OwnII.nil_, B1.out⟩
  have HB := Lib.hid hB
  obtain ⟨hk, hk2⟩ := linked_all hlen hB
  have hm40 : m ≤ 40 := by have := hk.forty; rw [hy.len] at this; exact this
  have hm240 : m2 ≤ 40 := by have := hk2.forty; rw [hz.len] at this; exact this
  have hml := Lib.hid hy.len
  have hzl := Lib.hid hz.len
  have HN : Hid (clR vs rs qs us = pairsL (setL vs us rs qs) m m) := Lib.hid (by rw [clR, if_pos hB, hml.out])
  rw [HN.out]
  have HE := Lib.hid (fun i t (h : t < (setL vs us rs qs i).length) => (show ∃ k, k < m2 ∧ (setL vs us rs qs i)[t]?.getD 0 = ((k : Nat) : Int) from by
    obtain ⟨k, h1, h2, _⟩ := linkK_at (p := lnk vs us rs qs i) (n := qs.length) (i := t) h
    exact ⟨k, by rw [← hzl.out]; exact h1, h2⟩))
  have HLE := Lib.hid (fun i => (show (setL vs us rs qs i).length ≤ 40 by have := linkK_len (lnk vs us rs qs i) qs.length; rw [hzl.out] at this; unfold setL; rw [hzl.out]; omega))
  clear hB hlen
  go_enter Try.func45, Try.ntmps45
  go_wp2_with fail
  refine (liTwo_any _ _ _ _ n _ m _ m2 _ l _ vs rs qs us _ hx hy hz hu).mono ?_
  rintro e w0 ⟨rfl, b0⟩
  rw [HB.out]
  go_wp2_with fail
  refine (liSets_any _ _ _ _ n _ m _ m2 _ l _ vs rs qs us _ (hx.below b0) (hy.below b0) (hz.below b0) (hu.below b0) hk hk2).mono ?_
  rintro e w1 ⟨A1, c1, rfl, o1, b1⟩
  have HB1 := Lib.hid (b0.trans (b1.mono b0.size))
  have O1 := Lib.hid o1.read
  clear hx hy hz hu b0 b1 o1 hk hk2 hzl HN
  generalize setL vs us rs qs = S at *
  go_wp2
  go_loopw [11, 30] (fun a i wr => ∃ (j : Nat) (D : Option Addr) (c3 : Nat) (ys : List Value), j ≤ m ∧ i = .int .i64 j ∧ a = .slice D (pairsL S m j).length c3 ∧ Hid (wr.ownsRow w1.heap.size 27 1 (.slice D (pairsL S m j).length c3) (pairsL S m j).length ys) ∧ Hid (Sub wr w1.heap.size wr.heap.size ys 1 0 (fun t => (pairsL S m j)[t]?.getD []) 0 (pairsL S m j).length) ∧ Hid (Below w1.heap.size w1 wr)) (fun _ i _ => m - (intOf i).toNat)
  case atStart => exact ⟨0, none, 0, [], Nat.zero_le _, rfl, rfl, Lib.hid (World.ownsRow_nil _ _ _ _), Lib.hid ⟨fun j _ h => absurd h (by simp [pairsL, linkK]), fun i j g _ h1 h2 => absurd h2 (by simp [pairsL, linkK])⟩, Lib.hid (Below.refl _ _)⟩
  case round =>
    obtain ⟨j, D, c3, ys, hj, rfl, rfl, HO, HS, HB4⟩ := hrel
    obtain ⟨wo, rfl⟩ : ∃ wo : World, wo = wr := ⟨_, rfl⟩
    by_cases hlt : j < m
    · obtain ⟨ad, rfl, V, cv, hc, hv⟩ := (O1.out.below HB4.out).at_ hlt
      by_cases h1 : (S j).length = 1
      · obtain ⟨av, rfl, hcv⟩ := hv.at_ (k := 0) (by omega)
        obtain ⟨e0, he2, he⟩ := HE.out j 0 (by omega)
        rw [he] at hcv
        have hav : av.add 0 = av := by unfold Addr.add; simp
        rw [hav] at hcv
        have HE0 := Lib.hid he
        have HCQ := Lib.hid (show certB S m j = aloneK S j (e0 : Int) m by rw [certB_eq h1, he])
        have hn1 : (((S j).length : Int) != 1) = false := by simp [h1]
        rw [h1] at hc hn1
        have O1w := Lib.hid (O1.out.below HB4.out)
        clear hv he hav h1
        go_wp2_with fail
        clear hn1 hc
        go_loopw [14, 40] (fun a i wq => ∃ t : Nat, t ≤ m ∧ i = .int .i64 t ∧ a = .bool (aloneK S j (e0 : Int) t) ∧ wo = wq) (fun _ i _ => m - (intOf i).toNat)
        case atStart => exact ⟨0, Nat.zero_le _, rfl, rfl, rfl⟩
        case round =>
          obtain ⟨t, ht, rfl, rfl, rfl⟩ := hrel
          by_cases htm : t < m
          · obtain ⟨ad2, ea, V2, cv2, hc2, hv2⟩ := O1w.out.at_ htm
            injection ea with ea
            subst ea
            have hl2 := HLE.out t
            have HST := Lib.hid (show aloneK S j (e0 : Int) (t + 1) = (aloneK S j (e0 : Int) t && (decide (t = j) || !hasB (S t) (e0 : Int))) by unfold aloneK allTo; rw [List.range_succ, List.all_append]; simp)
            have HVT : Hid (IntR wo V2 (S t).length (S t)) := Lib.hid ⟨hv2, by omega⟩
            clear hv2
            generalize (S t).length = l2 at *
            cases hA : aloneK S j (e0 : Int) t
            · have R := Lib.hid (show aloneK S j (e0 : Int) (t + 1) = false by rw [HST.out, hA]; rfl)
              clear hA
              go_wp2
              go_roundw
              case rel => exact ⟨t + 1, by omega, by go_num, by rw [R.out], trivial⟩
              case measure => simp [intOf]; omega
            · by_cases htj : t = j
              · have R := Lib.hid (show aloneK S j (e0 : Int) (t + 1) = true by rw [HST.out, hA, decide_eq_true htj]; rfl)
                have hq : ((t : Int) == (j : Int)) = true := by simp [htj]
                clear htj hA
                go_wp2
                go_roundw
                case rel => exact ⟨t + 1, by omega, by go_num, by rw [R.out], trivial⟩
                case measure => simp [intOf]; omega
              · have R := Lib.hid (show aloneK S j (e0 : Int) (t + 1) = !hasB (S t) (e0 : Int) by rw [HST.out, hA, decide_eq_false htj]; rfl)
                have hq : ((t : Int) == (j : Int)) = false := by rw [beq_eq_false_iff_ne]; omega
                clear htj hA
                go_wp2_with fail
                refine (l1Has_any _ _ _ (e0 : Int) (S t) _ HVT.out).mono ?_
                rintro e w6 ⟨rfl, rfl⟩
                cases hH : hasB (S t) (e0 : Int)
                · have HH := Lib.hid (show aloneK S j (e0 : Int) (t + 1) = true by rw [R.out, hH]; rfl)
                  clear hH
                  go_wp2
                  go_roundw
                  case rel => exact ⟨t + 1, by omega, by go_num, by rw [HH.out], trivial⟩
                  case measure => simp [intOf]; omega
                · have HH := Lib.hid (show aloneK S j (e0 : Int) (t + 1) = false by rw [R.out, hH]; rfl)
                  clear hH
                  go_wp2
                  go_roundw
                  case rel => exact ⟨t + 1, by omega, by go_num, by rw [HH.out], trivial⟩
                  case measure => simp [intOf]; omega
          · obtain rfl : m = t := by omega
            cases hA : aloneK S j (e0 : Int) m
            · have HC := Lib.hid (pairsL_no (S := S) (m := m) (i := j) (by rw [HCQ.out, hA]))
              clear hA
              go_wp2
              go_roundw
              case rel => exact ⟨j + 1, D, c3, ys, by omega, by go_num, by rw [HC.out], by rw [HC.out]; exact HO, by rw [HC.out]; exact HS, HB4⟩
              case measure => simp [intOf]; omega
            · have HC := Lib.hid (HCQ.out.trans hA)
              clear hA
              have PY := Lib.hid (pairsL_yes (S := S) (m := m) (i := j) HC.out)
              rw [HE0.out] at PY
              have PL := Lib.hid (show (pairsL S m (j + 1)).length = (pairsL S m j).length + 1 by rw [PY.out]; simp)
              have hpl := pairsL_len S m j
              have hszW := HB4.out.size
              have bA := below_new wo (.cells #[.int .i64 (j : Int), .int .i64 (e0 : Int)] 3)
              have oA : Own (wo.alloc (.cells #[.int .i64 (j : Int), .int .i64 (e0 : Int)] 3)) w1.heap.size (some ⟨wo.heap.size, 0, none⟩) 2 2 [(j : Int), (e0 : Int)] := (own_new wo [(j : Int), (e0 : Int)] 2 rfl (by omega)).mono hszW
              have hoA := row_below HO.out bA
              have hszA := bA.size
              have hsnoc := Lib.hid (fun (w6 : World) (D6 : Option Addr) (c6 : Nat) (hg : ((wo.alloc (.cells #[.int .i64 (j : Int), .int .i64 (e0 : Int)] 3)).alloc (.cells #[.slice (some ⟨wo.heap.size, 0, none⟩) 2 2] 27)).grownBy w6 (rowOf D)) => HS.out.snoc (r := [(j : Int), (e0 : Int)]) (rc := 2) (rn := 2) (by have := HO.out.1; omega) rfl (bA.alloc bA.size _) (oA.below (below_new _ _)) rfl (by omega) (Nat.le_refl _) (row_below hoA (below_new _ _)) hg)
              have HBA := Lib.hid (HB4.out.alloc hszW (.cells #[.int .i64 (j : Int), .int .i64 (e0 : Int)] 3))
              have hr1 := Lib.hid (fun g hg => (World.ownsRow.lt HO.out g (by simpa [ownBlock_row] using hg)).1)
              clear oA
              go_wp2_with (at_builtin; refine wp_appII1 rfl _ _ rfl w1.heap.size D _ c3 ys rfl hoA _ rfl (by simp) rfl (by omega) (by simp; omega) ?_; intro D6 c6 w6 hown6 hg6)
              have S6 := Lib.hid (hsnoc.out w6 D6 c6 hg6)
              have HB6 := Lib.hid ((HBA.out.alloc (by simp; omega) (.cells #[.slice (some ⟨wo.heap.size, 0, none⟩) 2 2] 27)).grown hg6 (by simp; omega) hr1.out)
              have HO6 := Lib.hid hown6
              clear hoA bA hown6 hg6 hsnoc HBA
              go_wp2
              go_roundw
              case rel => exact ⟨j + 1, D6, c6, _, by omega, by go_num, by rw [PL.out], by rw [PL.out]; exact HO6, by rw [PL.out, PY.out]; exact S6, HB6⟩
              case measure => simp [intOf]; omega
      · have HC := Lib.hid (pairsL_no (S := S) (m := m) (i := j) (certB_no h1))
        have hll := HLE.out j
        have hq : (((S j).length : Int) != 1) = true := by simp; omega
        generalize (S j).length = lj at *
        clear h1
        go_wp2
        go_roundw
        case rel => exact ⟨j + 1, D, c3, ys, by omega, by go_num, by rw [HC.out], by rw [HC.out]; exact HO, by rw [HC.out]; exact HS, HB4⟩
        case measure => simp [intOf]; omega
    · obtain rfl : j = m := by omega
      have hpl := pairsL_len S j j
      go_wp2
      go_ret2
      refine ⟨D, c3, rfl, ?_, HB1.out.trans (HB4.out.mono HB1.out.size)⟩
      exact (show OwnII wo w1.heap.size wo.heap.size D (pairsL S j j).length c3 (fun t => (pairsL S j j)[t]?.getD []) from ⟨⟨ys, HO.out, HS.out⟩, fun g hg => (World.ownsRow.lt HO.out g (by simpa [ownBlock_row] using hg)).2, by omega⟩).fit HB1.out.size
theorem clR_row (vs : List (ByteArray × Int)) (rs qs : List RecD) (us : List Int) (j : Nat) : ((clR vs rs qs us)[j]?.getD []).length ≤ 1048576 := by
  unfold clR
  split
  · unfold pairsL
    rw [List.getElem?_map]
    cases (linkK (certB (setL vs us rs qs) rs.length) rs.length)[j]? <;> simp
  · simp
theorem clR_le {vs : List (ByteArray × Int)} {rs qs : List RecD} {us : List Int} {n : Nat} (hl : rs.length = n) (hn : n ≤ 1048576) : (clR vs rs qs us).length ≤ 1048576 := by
  unfold clR
  split
  · have := pairsL_len (setL vs us rs qs) rs.length rs.length; omega
  · simp
end Go.Proofs.Ytgeilnkglbcmeaa
