/- Several small texts in one: SwA, SwB. -/
import Derived.Test.YtahbcnclhohnaaaGreatZg
import Derived.Test.YtahbcnclhohnaaaGreatYa
import Derived.Test.YtahbcnclhohnaaaGreatRowG
import Derived.Test.YtahbcnclhohnaaaGreatZh
namespace Go.Proofs.YtahbcnclhohnaaaGreat

section
open Go.RowKit

/-- Two records can be swapped. -/
def canB (vs : List (ByteArray × Int)) (us : List Int) (rs : List RecD) (i k : Nat) : Bool := (rA rs i != rA rs k) && (keyV vs (rV rs i) us == keyV vs (rV rs k) us)

set_option maxRecDepth 100000 in
set_option maxHeartbeats 2000000 in
theorem swCan_any (A B U : Option Addr) (n c m d l k' i k : Nat) (vs : List (ByteArray × Int)) (rs : List RecD) (us : List Int) (w : World) (hx : SchR w A n c vs) (hy : DatR w B m rs) (hu : IntR w U l us) (hk : AllOk vs rs us n) (hi : i < m) (hk2 : k < m) :
    Calls Tryz.prog 48 #[.slice A n c, .slice B m d, .slice U l k', .int .i64 i, .int .i64 k] w fun e w' => e = .returned (.bool (canB vs us rs i k)) ∧ Below w.heap.size w w' := by
  have hO1 := Lib.hid (hk.at_ (show i < rs.length by rw [hy.len]; exact hi))
  have hO2 := Lib.hid (hk.at_ (show k < rs.length by rw [hy.len]; exact hk2))
  have hl1 := hy.s i hi
  have hl2 := hy.s k hk2
  obtain ⟨ad, hB, c0, _, V, lv, cv, c2, hv⟩ := hy.r.at_ hi
  obtain ⟨ad', hB', d0, _, V2, lv2, cv2, d2, hv2⟩ := hy.r.at_ hk2
  subst hB
  simp only [Option.some.injEq] at hB'
  subst hB'
  have hi0 : (0 : Int) ≤ (i : Int) := by omega
  have hk0 : (0 : Int) ≤ (k : Int) := by omega
  have him : (i : Int) < (m : Int) := by omega
  have hkm : (k : Int) < (m : Int) := by omega
  rw [hv.1] at hl1
  rw [hv2.1] at hl2
  have HV := Lib.hid (IntR.mk hv hl1)
  have HV2 := Lib.hid (IntR.mk hv2 hl2)
  have HX := Lib.hid hx
  have HU := Lib.hid hu
  obtain ⟨x, hxe⟩ : ∃ x, rA rs i = x := ⟨_, rfl⟩
  obtain ⟨x2, hxe2⟩ : ∃ x, rA rs k = x := ⟨_, rfl⟩
  rw [hxe] at c0
  rw [hxe2] at d0
  have HC := Lib.hid (show canB vs us rs i k = ((x != x2) && (keyV vs (rV rs i) us == keyV vs (rV rs k) us)) by unfold canB; rw [hxe, hxe2])
  rw [HC.out]
  clear hx hy hu hv hv2 hxe hxe2 hk
  cases hA : x != x2
  · have R := Lib.hid (show false = (false && (keyV vs (rV rs i) us == keyV vs (rV rs k) us)) from rfl)
    rw [← R.out]
    go_enter Tryz.func48, Tryz.ntmps48
    go_wp2
    go_quiet (fail)
    go_wp2
    go_ret
    exact ⟨rfl, below_drewN (Below.refl _ _) _⟩
  · rw [Bool.true_and]
    go_enter Tryz.func48, Tryz.ntmps48
    go_wp2
    have tok1 : True := trivial
    go_region_held3 (fun w' => w'.cell? (ad.add (i * 3)) = some (.int .i64 x) ∧ w'.cell? ⟨(ad.add (i * 3)).block, (ad.add (i * 3)).off + 2, none⟩ = some (.slice V lv cv) ∧ w'.cell? (ad.add (k * 3)) = some (.int .i64 x2) ∧ w'.cell? ⟨(ad.add (k * 3)).block, (ad.add (k * 3)).off + 2, none⟩ = some (.slice V2 lv2 cv2)) (first | exact ⟨c0, c2, d0, d2⟩ | exact q1 | exact q2 | go_keep)
      ((first | (have _t := tok1; go_at_call 72; refine (swKey_any _ _ _ n _ lv _ l _ vs (rV rs i) us _ (by exact HX.out.below (below_drewN (Below.refl _ _) 1)) (by exact HV.out.below (below_drewN (Below.refl _ _) 1)) (by exact HU.out.below (below_drewN (Below.refl _ _) 1)) hO1.out).mono ?_; rintro e w1 ⟨rfl, b1⟩; have B1 : Below w.heap.size w w1 := (by first | exact b1 | exact (Below.refl _ _).drew.trans b1); have q1 := And.intro ((B1.cell (block_lt_of_cell c0)).trans c0) (And.intro ((B1.cell (block_lt_of_cell c2)).trans c2) (And.intro ((B1.cell (block_lt_of_cell d0)).trans d0) ((B1.cell (block_lt_of_cell d2)).trans d2))); clear tok1 _t b1; have tok2 : True := trivial) | (have _t := tok2; go_at_call 72; refine (swKey_any _ _ _ n _ lv2 _ l _ vs (rV rs k) us _ (HX.out.below B1) (HV2.out.below B1) (HU.out.below B1) hO2.out).mono ?_; rintro e w2 ⟨rfl, b2⟩; have B2 := B1.trans (b2.mono B1.size); have q2 := And.intro ((B2.cell (block_lt_of_cell c0)).trans c0) (And.intro ((B2.cell (block_lt_of_cell c2)).trans c2) (And.intro ((B2.cell (block_lt_of_cell d0)).trans d0) ((B2.cell (block_lt_of_cell d2)).trans d2)))) | fail))
    go_wp2
    go_ret
    exact ⟨rfl, B2⟩
end

section
open Go.RowKit

/-- The pairs of the j-th record with those behind it, the first t of them. -/
def candR (vs : List (ByteArray × Int)) (us : List Int) (rs : List RecD) (j t : Nat) : List (List Int) := ((List.range t).filter fun x => canB vs us rs j (j + 1 + x)).map fun x => [(j : Int), ((j + 1 + x : Nat) : Int)]
def candT (vs : List (ByteArray × Int)) (us : List Int) (rs : List RecD) (m : Nat) : Nat → List (List Int)
  | 0 => []
  | j + 1 => candT vs us rs m j ++ candR vs us rs j (m - (j + 1))
section
variable {vs : List (ByteArray × Int)} {us : List Int} {rs : List RecD} {j t m : Nat}
theorem candR_yes (h : canB vs us rs j (j + 1 + t) = true) : candR vs us rs j (t + 1) = candR vs us rs j t ++ [[(j : Int), ((j + 1 + t : Nat) : Int)]] := by simp [candR, List.range_succ, h]
theorem candR_no (h : canB vs us rs j (j + 1 + t) = false) : candR vs us rs j (t + 1) = candR vs us rs j t := by simp [candR, List.range_succ, h]
theorem candR_len (vs : List (ByteArray × Int)) (us : List Int) (rs : List RecD) (j t : Nat) : (candR vs us rs j t).length ≤ t := by
  have := List.length_filter_le (fun x => canB vs us rs j (j + 1 + x)) (List.range t)
  simpa [candR] using this
theorem candT_len (hm : m ≤ 40) : ∀ j, (candT vs us rs m j).length ≤ 40 * j := by
  intro j
  induction j with
  | zero => simp [candT]
  | succ j ih =>
    have := candR_len vs us rs j (m - (j + 1))
    simp only [candT, List.length_append]
    omega
theorem candR_mem {r : List Int} (h : r ∈ candR vs us rs j t) : ∃ k : Nat, r = [(j : Int), (k : Int)] ∧ j < k ∧ k < j + 1 + t := by
  simp only [candR, List.mem_map, List.mem_filter, List.mem_range] at h
  obtain ⟨x, ⟨hx, _⟩, rfl⟩ := h
  exact ⟨j + 1 + x, rfl, by omega, by omega⟩
theorem candT_mem {r : List Int} : ∀ j, j ≤ m → r ∈ candT vs us rs m j → ∃ i k : Nat, r = [(i : Int), (k : Int)] ∧ i < k ∧ k < m := by
  intro j
  induction j with
  | zero => intro _ h; cases h
  | succ j ih =>
    intro hj h
    rcases List.mem_append.1 h with h | h
    · exact ih (by omega) h
    · obtain ⟨k, e, h1, h2⟩ := candR_mem h
      exact ⟨j, k, e, h1, by omega⟩
end

set_option maxRecDepth 100000 in
set_option maxHeartbeats 4000000 in
theorem swCandidates_any (A B U : Option Addr) (n c m d l k' : Nat) (vs : List (ByteArray × Int)) (rs : List RecD) (us : List Int) (w : World) (hx : SchR w A n c vs) (hy : DatR w B m rs) (hu : IntR w U l us) (hk : AllOk vs rs us n) :
    Calls Tryz.prog 31 #[.slice A n c, .slice B m d, .slice U l k'] w fun e w' => ∃ A' c', e = .returned (.slice A' (candT vs us rs m m).length c') ∧ OwnII w' w.heap.size w'.heap.size A' (candT vs us rs m m).length c' (fun t => (candT vs us rs m m)[t]?.getD []) ∧ Below w.heap.size w w' := by
  have hm40 : m ≤ 40 := by have := hk.forty; rw [hy.len] at this; exact this
  have HX := Lib.hid hx
  have HY := Lib.hid hy
  have HU := Lib.hid hu
  clear hx hy hu
  go_enter Tryz.func31, Tryz.ntmps31
  go_wp2
  go_loopw [7, 12] (fun a i wr => ∃ (j : Nat) (D : Option Addr) (c3 : Nat) (ys : List Value), j ≤ m ∧ i = .int .i64 j ∧ a = .slice D (candT vs us rs m j).length c3 ∧ Hid (wr.ownsRow w.heap.size 26 1 (.slice D (candT vs us rs m j).length c3) (candT vs us rs m j).length ys) ∧ Hid (Sub wr w.heap.size wr.heap.size ys 1 0 (fun t => (candT vs us rs m j)[t]?.getD []) 0 (candT vs us rs m j).length) ∧ Below w.heap.size w wr) (fun _ i _ => m - (intOf i).toNat)
  case atStart => exact ⟨0, none, 0, [], Nat.zero_le _, rfl, rfl, Lib.hid (World.ownsRow_nil _ _ _ _), Lib.hid ⟨fun j _ h => absurd h (by simp [candT]), fun i j g _ _ h => absurd h (by simp [candT])⟩, Below.refl _ _⟩
  case round =>
    obtain ⟨j, D, c3, ys, hj, rfl, rfl, HO, HS, hbw⟩ := hrel
    obtain ⟨wo, rfl⟩ : ∃ wo : World, wo = wr := ⟨_, rfl⟩
    by_cases hlt : j < m
    · obtain ⟨R0, hR0⟩ : ∃ R0, candT vs us rs m j = R0 := ⟨_, rfl⟩
      have HR0 := Lib.hid hR0
      have hl0 := candT_len (vs := vs) (us := us) (rs := rs) hm40 j
      have HNX := Lib.hid (show candT vs us rs m (j + 1) = candT vs us rs m j ++ candR vs us rs j (m - (j + 1)) from rfl)
      rw [hR0] at HO HS hl0 HNX ⊢
      clear hR0
      have HBW := Lib.hid hbw
      clear hbw
      go_wp2_with fail
      go_loopw [7, 9] (fun a i wq => ∃ (t kk : Nat) (R : List (List Int)) (D : Option Addr) (c3 : Nat) (ys : List Value), t ≤ m - (j + 1) ∧ i = .int .i64 kk ∧ Hid (kk = j + 1 + t) ∧ Hid (R = R0 ++ candR vs us rs j t) ∧ a = .slice D R.length c3 ∧ Hid (wq.ownsRow w.heap.size 26 1 (.slice D R.length c3) R.length ys) ∧ Hid (Sub wq w.heap.size wq.heap.size ys 1 0 (fun t => R[t]?.getD []) 0 R.length) ∧ Hid (Below w.heap.size w wq)) (fun _ i _ => m - (intOf i).toNat)
      case atStart => exact ⟨0, j + 1, R0, D, c3, ys, Nat.zero_le _, by go_num, Lib.hid rfl, Lib.hid (by simp [candR]), rfl, HO, HS, HBW⟩
      case round =>
        clear HO HS HBW
        obtain ⟨t, kk, R, D, c3, ys, ht, rfl, HK, HR, rfl, HO, HS, HB⟩ := hrel
        have hRl : R.length ≤ 1640 := by have h1 := HR.out; have h2 := candR_len vs us rs j t; rw [h1, List.length_append]; omega
        by_cases hlk : kk < m
        · have HCY := Lib.hid (fun h => candR_yes (vs := vs) (us := us) (rs := rs) (j := j) (t := t) h)
          have HCN := Lib.hid (fun h => candR_no (vs := vs) (us := us) (rs := rs) (j := j) (t := t) h)
          rw [← HK.out] at HCY HCN
          have ht2 : t + 1 ≤ m - (j + 1) := by have := HK.out; omega
          have hbq := HB.out
          go_wp2_with fail
          refine (swCan_any A B U n c m d l k' j kk vs rs us _ (HX.out.below hbq) (HY.out.below hbq) (HU.out.below hbq) hk hlt hlk).mono ?_
          rintro e w4 ⟨rfl, b4⟩
          have HO4 := Lib.hid (row_below HO.out b4)
          have HS4 := Lib.hid ((HS.out.below b4).fit (Nat.le_refl _))
          have HB4 := Lib.hid (hbq.trans (b4.mono hbq.size))
          clear HO HS HB b4 hbq
          cases hP : canB vs us rs j kk
          · have HP := Lib.hid (HCN.out hP)
            clear hP HCY HCN
            go_wp2
            go_roundw
            case rel => exact ⟨t + 1, kk + 1, R, D, c3, ys, ht2, by go_num, Lib.hid (by have := HK.out; omega), Lib.hid (by rw [HP.out]; exact HR.out), rfl, HO4, HS4, HB4⟩
            case measure => simp [intOf]; omega
          · have HP := Lib.hid (HCY.out hP)
            clear hP HCY HCN
            have hszW := HB4.out.size
            have bA := below_new w4 (.cells #[.int .i64 (j : Int), .int .i64 (kk : Int)] 3)
            have oA : Own (w4.alloc (.cells #[.int .i64 (j : Int), .int .i64 (kk : Int)] 3)) w.heap.size (some ⟨w4.heap.size, 0, none⟩) 2 2 [(j : Int), (kk : Int)] := (own_new w4 [(j : Int), (kk : Int)] 2 rfl (by omega)).mono hszW
            have hoA := row_below HO4.out bA
            have hszA := bA.size
            have hsnoc := Lib.hid (fun (w6 : World) (D6 : Option Addr) (c6 : Nat) (hg : ((w4.alloc (.cells #[.int .i64 (j : Int), .int .i64 (kk : Int)] 3)).alloc (.cells #[.slice (some ⟨w4.heap.size, 0, none⟩) 2 2] 26)).grownBy w6 (rowOf D)) => HS4.out.snoc (r := [(j : Int), (kk : Int)]) (rc := 2) (rn := 2) (by have := HO4.out.1; omega) rfl (bA.alloc bA.size _) (oA.below (below_new _ _)) rfl (by omega) (Nat.le_refl _) (row_below hoA (below_new _ _)) hg)
            have HBA := Lib.hid (HB4.out.alloc hszW (.cells #[.int .i64 (j : Int), .int .i64 (kk : Int)] 3))
            have hr1 := Lib.hid (fun g hg => (World.ownsRow.lt HO4.out g (by simpa [ownBlock_row] using hg)).1)
            have HLN := Lib.hid (show (R ++ [[(j : Int), (kk : Int)]]).length = R.length + 1 by simp)
            clear oA
            go_wp2_with (at_builtin; refine wp_appII1 rfl _ _ rfl w.heap.size D _ c3 ys rfl hoA _ rfl (by simp) rfl (by omega) (by simp; omega) ?_; intro D6 c6 w6 hown6 hg6)
            have S6 := Lib.hid (hsnoc.out w6 D6 c6 hg6)
            have HB6 := Lib.hid ((HBA.out.alloc (by simp; omega) (.cells #[.slice (some ⟨w4.heap.size, 0, none⟩) 2 2] 26)).grown hg6 (by simp; omega) hr1.out)
            have HO6 := Lib.hid hown6
            clear hoA bA hown6 hg6 hsnoc HBA
            go_roundw
            case rel => exact ⟨t + 1, kk + 1, R ++ [[(j : Int), (kk : Int)]], D6, c6, _, ht2, by go_num, Lib.hid (by have := HK.out; omega), Lib.hid (by rw [HP.out, HR.out, List.append_assoc]), by rw [HLN.out], Lib.hid (by rw [HLN.out]; exact HO6.out), Lib.hid (by rw [HLN.out]; exact S6.out), HB6⟩
            case measure => simp [intOf]; omega
        · have ht3 : t = m - (j + 1) := by have := HK.out; omega
          have HE := Lib.hid (show R = candT vs us rs m (j + 1) by rw [HNX.out, HR.out, ht3])
          have hB9 := HB.out
          clear ht3 hRl
          go_wp2
          go_roundw
          case rel => exact ⟨j + 1, D, c3, ys, by omega, by go_num, by rw [HE.out], by rw [← HE.out]; exact HO, by rw [← HE.out]; exact HS, hB9⟩
          case measure => simp [intOf]; omega
    · obtain rfl : m = j := by omega
      have hl := candT_len (vs := vs) (us := us) (rs := rs) hm40 m
      go_wp2
      go_ret
      exact ⟨D, c3, rfl, ⟨⟨ys, HO.out, HS.out⟩, fun k hk => (row_ge HO.out k hk).2, by omega⟩, hbw⟩
end
end Go.Proofs.YtahbcnclhohnaaaGreat
