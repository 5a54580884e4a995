/- The nearest links, of the program and of the reference. -/
import Derived.Test.YtgeilnkglbcmeaaGreatClass
import Derived.Deep.CutRange
namespace Go.Proofs.YtgeilnkglbcmeaaGreat
open Go.RowKit

/-- How many of the first k key variables differ. -/
def distN (xs ys us : List Int) : Nat → Int
  | 0 => 0
  | k + 1 => distN xs ys us k + (if xs[ix us k]?.getD 0 = ys[ix us k]?.getD 0 then 0 else 1)
theorem distN_bd (xs ys us : List Int) (k : Nat) : 0 ≤ distN xs ys us k ∧ distN xs ys us k ≤ k := by
  induction k with
  | zero => simp [distN]
  | succ k ih => simp only [distN]; split <;> omega
theorem distN_eq {xs ys us : List Int} {k : Nat} (h : xs[ix us k]?.getD 0 = ys[ix us k]?.getD 0) : distN xs ys us (k + 1) = distN xs ys us k := by simp [distN, h]
theorem distN_ne {xs ys us : List Int} {k : Nat} (h : xs[ix us k]?.getD 0 ≠ ys[ix us k]?.getD 0) : distN xs ys us (k + 1) = distN xs ys us k + 1 := by simp [distN, h]
theorem distN_comm (xs ys us : List Int) (k : Nat) : distN xs ys us k = distN ys xs us k := by
  induction k with
  | zero => rfl
  | succ k ih => simp only [distN, ih, eq_comm]
/-- The best index and its distance behind k candidates. -/
def nb (p : Nat → Bool) (d : Nat → Int) : Nat → Int × Int
  | 0 => (-1, 0)
  | k + 1 => if p k = true ∧ ((nb p d k).1 < 0 ∨ d k < (nb p d k).2) then ((k : Int), d k) else nb p d k
theorem nb_skip {p : Nat → Bool} {d : Nat → Int} {k : Nat} (h : p k = false) : nb p d (k + 1) = nb p d k := by simp [nb, h]
theorem nb_take {p : Nat → Bool} {d : Nat → Int} {k : Nat} (h : p k = true) (h2 : (nb p d k).1 < 0 ∨ d k < (nb p d k).2) : nb p d (k + 1) = ((k : Int), d k) := by simp only [nb]; rw [if_pos ⟨h, h2⟩]
theorem nb_keep {p : Nat → Bool} {d : Nat → Int} {k : Nat} (h2 : ¬ ((nb p d k).1 < 0 ∨ d k < (nb p d k).2)) : nb p d (k + 1) = nb p d k := by simp only [nb]; rw [if_neg (fun h => h2 h.2)]
theorem nb_bd {p : Nat → Bool} {d : Nat → Int} (hd : ∀ k, 0 ≤ d k ∧ d k ≤ 6) (k : Nat) : (-1 ≤ (nb p d k).1 ∧ (nb p d k).1 < k + 1) ∧ 0 ≤ (nb p d k).2 ∧ (nb p d k).2 ≤ 6 := by
  induction k with
  | zero => simp [nb]
  | succ k ih =>
    have := hd k
    simp only [nb]
    split <;> (try dsimp only) <;> omega
def nlP (rs qs : List RecD) (i k : Nat) : Bool := rA qs k == rA rs i
def nlD (us : List Int) (rs qs : List RecD) (i k : Nat) : Int := distN (rV qs k) (rV rs i) us us.length
def nlS (us : List Int) (rs qs : List RecD) (i k : Nat) : Int × Int := nb (nlP rs qs i) (nlD us rs qs i) k
def nlV (us : List Int) (rs qs : List RecD) (i : Nat) : Int := (nlS us rs qs i qs.length).1
def nlL (us : List Int) (rs qs : List RecD) : List Int := tabl rs.length (nlV us rs qs)
theorem nlL_len (us : List Int) (rs qs : List RecD) : (nlL us rs qs).length = rs.length := tabl_len _ _
theorem nlS_bd {us : List Int} (h : us.length ≤ 6) (rs qs : List RecD) (i k : Nat) : (-1 ≤ (nlS us rs qs i k).1 ∧ (nlS us rs qs i k).1 < k + 1) ∧ 0 ≤ (nlS us rs qs i k).2 ∧ (nlS us rs qs i k).2 ≤ 6 :=
  nb_bd (fun t => by have := distN_bd (rV qs t) (rV rs i) us us.length; unfold nlD; omega) k
def nlG (us : List Int) (rs qs : List RecD) (i : Nat) : Nat → Int := fun t => if t < i then nlV us rs qs t else 0
def nlH (us : List Int) (rs qs : List RecD) (i k : Nat) : Nat → Int := fun t => if t < i then nlV us rs qs t else if t = i then (nlS us rs qs i k).1 else 0
theorem nlH_start {us : List Int} {rs qs : List RecD} {n i : Nat} : (tabl n (nlG us rs qs i)).set i (-1) = tabl n (nlH us rs qs i 0) := by
  rw [tabl_set]
  refine tabl_congr fun t _ => ?_
  by_cases e : t = i
  · subst e; simp [nlH, nlS, nb]
  · simp [nlG, nlH, e]
theorem nlH_set {us : List Int} {rs qs : List RecD} {n i k : Nat} : (tabl n (nlH us rs qs i k)).set i (nlS us rs qs i (k + 1)).1 = tabl n (nlH us rs qs i (k + 1)) := by
  rw [tabl_set]
  refine tabl_congr fun t _ => ?_
  by_cases e : t = i
  · subst e; simp [nlH]
  · simp [nlH, e]
theorem nlH_same {us : List Int} {rs qs : List RecD} {n i k : Nat} (h : nlS us rs qs i (k + 1) = nlS us rs qs i k) : tabl n (nlH us rs qs i k) = tabl n (nlH us rs qs i (k + 1)) :=
  tabl_congr fun t _ => by simp [nlH, h]
theorem nlH_at (us : List Int) (rs qs : List RecD) (i k : Nat) : nlH us rs qs i k i = (nlS us rs qs i k).1 := by simp [nlH]
theorem nlH_end {us : List Int} {rs qs : List RecD} {n i m : Nat} (h : qs.length = m) : tabl n (nlH us rs qs i m) = tabl n (nlG us rs qs (i + 1)) := by
  refine tabl_congr fun t _ => ?_
  unfold nlH nlG nlV
  by_cases e : t = i
  · subst e; simp [h]
  · by_cases e2 : t < i
    · simp [e2, Nat.lt_succ_of_lt e2]
    · have e3 : ¬ t < i + 1 := by omega
      simp [e, e2, e3]

set_option maxHeartbeats 1000000 in
theorem sDistance_any (V V' : Option Addr) (l d d' : Nat) (xs ys us : List Int) (w : World) (hx : Ints w V l (pickL xs us l)) (hy : Ints w V' l (pickL ys us l)) (hl : l ≤ 1099511627776) :
    Calls Tryz.prog 34 #[.slice V l d, .slice V' l d'] w fun e w' => e = .returned (.int .i64 (distN xs ys us l)) ∧ Below w.heap.size w w' := by
  go_enter Tryz.func34, Tryz.ntmps34
  go_wp2
  go_loopw [5, 9] (fun a i wr => ∃ j : Nat, j ≤ l ∧ i = .int .i64 j ∧ a = .int .i64 (distN xs ys us j) ∧ Below w.heap.size w wr) (fun _ i _ => l - (intOf i).toNat)
  case atStart => exact ⟨0, Nat.zero_le _, rfl, rfl, Below.refl _ _⟩
  case round =>
    obtain ⟨j, hj, rfl, rfl, hbw⟩ := hrel
    by_cases hlt : j < l
    · obtain ⟨ad, rfl, hc⟩ := (hx.below hbw).at_ hlt
      obtain ⟨ad', rfl, hc'⟩ := (hy.below hbw).at_ hlt
      rw [pickL_at hlt] at hc hc'
      have hb := distN_bd xs ys us j
      have HB := Lib.hid hbw
      have E1 := Lib.hid (distN_eq (xs := xs) (ys := ys) (us := us) (k := j))
      have E2 := Lib.hid (distN_ne (xs := xs) (ys := ys) (us := us) (k := j))
      clear hx hy hbw
      generalize xs[ix us j]?.getD 0 = x at *
      generalize ys[ix us j]?.getD 0 = y at *
      by_cases e : x = y
      · have R := Lib.hid (E1.out e)
        have hne : (x != y) = false := by simp [e]
        clear e
        go_wp2
        go_quiet (fail)
        go_wp2
        go_roundw
        case rel => exact ⟨j + 1, by omega, by go_num, by rw [R.out], below_drewN HB.out _⟩
        case measure => simp [intOf]; omega
      · have R := Lib.hid (E2.out e)
        have hne : (x != y) = true := by simp [e]
        clear e
        generalize distN xs ys us j = dj at *
        go_wp2
        go_quiet (fail)
        go_wp2
        go_roundw
        case rel => exact ⟨j + 1, by omega, by go_num, by rw [R.out], below_drewN HB.out _⟩
        case measure => simp [intOf]; omega
    · obtain rfl : j = l := by omega
      go_wp2
      go_ret
      exact ⟨rfl, hbw⟩

def nlR (vs : List (ByteArray × Int)) (rs qs : List RecD) (us : List Int) : List Int := if linkedB vs rs qs us = true then nlL us rs qs else []

set_option maxRecDepth 100000 in
set_option maxHeartbeats 4000000 in
theorem implNearestLinks_law (A B C U : Option Addr) (n c m d m2 d2 l k' : Nat) (vs : List (ByteArray × Int)) (rs qs : List RecD) (us : List Int) (w : World) (hx : SchR w A n c vs) (hy : DatR w B m rs) (hz : DatR w C m2 qs) (hu : IntR w U l us) :
    Calls Tryz.prog 10 #[.slice A n c, .slice B m d, .slice C m2 d2, .slice U l k'] w (RetInts w (nlR vs rs qs us) (linkedB vs rs qs us)) := by
  have hlen := hx.len
  cases hB : linkedB vs rs qs us
  · have HB := Lib.hid hB
    have HN : Hid (nlR vs rs qs us = []) := Lib.hid (by rw [nlR, if_neg (by simp [hB])])
    rw [HN.out]
    clear hB hlen
    go_enter Tryz.func10, Tryz.ntmps10
    go_wp2_with fail
    refine (areLinked_any _ _ _ _ n _ m _ m2 _ l _ vs rs qs us _ hx hy hz hu).mono ?_
    rintro e w1 ⟨rfl, b1⟩
    rw [HB.out]
    have B1 := Lib.hid b1
    clear b1 hx hy hz hu
    go_wp2
    go_ret2
    exact ⟨none, 0, rfl, OwnI.nil_, B1.out⟩
  have HB := Lib.hid hB
  have HN : Hid (nlR vs rs qs us = nlL us rs qs) := Lib.hid (by rw [nlR, if_pos hB])
  obtain ⟨hk, hk2⟩ := linked_all hlen hB
  rw [HN.out]
  have hm40 : m ≤ 40 := by have := hk.forty; rw [hy.len] at this; exact this
  have hm240 : m2 ≤ 40 := by have := hk2.forty; rw [hz.len] at this; exact this
  have hul := Lib.hid hu.len
  have hl6 : l ≤ 6 := by have := hk.part.six; rw [hul.out] at this; exact this
  have HS6 := Lib.hid hk.part.six
  have hml := Lib.hid hy.len
  have HLL := Lib.hid (show (nlL us rs qs).length = m by rw [nlL_len, hml.out])
  clear hB hlen
  go_enter Tryz.func10, Tryz.ntmps10
  go_wp2_with fail
  refine (areLinked_any _ _ _ _ n _ m _ m2 _ l _ vs rs qs us _ hx hy hz hu).mono ?_
  rintro e w0 ⟨rfl, b0⟩
  rw [HB.out]
  have HX := Lib.hid (hx.below b0)
  have HY := Lib.hid (hy.below b0)
  have HZ := Lib.hid (hz.below b0)
  have HU := Lib.hid (hu.below b0)
  have HB0 := Lib.hid b0
  clear hx hy hz hu b0
  obtain ⟨i0, hi, hz0, hz1, hz2⟩ := info_parts Tryz.infoInt
  go_wp2_with (at_make; refine wpList_make_full _ rfl _ _ 26 rfl w0.heap.size 3 i0 _ 1 Tryz.underlying26 hi hz0 hz1 .i64 .i64 _ _ m rfl rfl rfl rfl (by rw [hz2]; omega) (by unfold maxLen; omega) (Nat.le_refl _) ?_; intro w1 hown hg)
  rw [map_replicate0] at hown
  have hO : Own w1 w0.heap.size (some ⟨w0.heap.size, 0, none⟩) m m (tabl m (nlG us rs qs 0)) := by
    have e : tabl m (nlG us rs qs 0) = List.replicate m 0 := by rw [tabl_zero]; exact tabl_congr fun t _ => by simp [nlG]
    rw [e]; exact hown
  have hb1 : Below w0.heap.size w0 w1 := (Below.refl _ _).grown hg (Nat.le_refl _) (by simp)
  clear hown hg hi hz0 hz1 hz2
  go_loopw [30] (fun i wr => ∃ j : Nat, j ≤ m ∧ i = .int .i64 j ∧ Own wr w0.heap.size (some ⟨w0.heap.size, 0, none⟩) m m (tabl m (nlG us rs qs j)) ∧ Below w0.heap.size w0 wr) (fun i _ => m - (intOf i).toNat)
  case atStart => exact ⟨0, Nat.zero_le _, rfl, hO, hb1⟩
  case round =>
    clear hO hb1
    obtain ⟨j, hj, rfl, hown, hbw⟩ := hrel
    obtain ⟨wo, rfl⟩ : ∃ wo : World, wo = wr := ⟨_, rfl⟩
    by_cases hlt : j < m
    · obtain ⟨ad, rfl, c0, c1, V, lv, cv, c2, hv⟩ := HY.out.r.later hbw hlt
      have hk1 := Lib.hid (hk.at_ (show j < rs.length by rw [hml.out]; exact hlt))
      have hlvn : Hid (lv = n) := Lib.hid (by have h1 := (valsB_of hk1.out.v).1; have h2 := hk1.out.len; rw [hv.1] at h1; omega)
      obtain ⟨x, hxe⟩ : ∃ x, rA rs j = x := ⟨_, rfl⟩
      obtain ⟨y, hye⟩ : ∃ y, rH rs j = y := ⟨_, rfl⟩
      rw [hxe] at c0
      rw [hye] at c1
      have HXE := Lib.hid hxe
      clear hye hxe
      have HV := Lib.hid hv
      have hgb : w0.heap.size < wo.heap.size := hown.size_lt
      obtain ⟨g, hg, _, _, p1, p1f⟩ := hown.at_ hlt
      simp only [Option.some.injEq, Addr.mk.injEq, and_true] at hg
      subst hg
      have o1 := hown.set (k := j) (x := -1)
      rw [nlH_start] at o1
      have O2 := Lib.hid (o1.below (below_new (wo.setCell ⟨w0.heap.size, j, none⟩ (.int .i64 (-1))) (.cells #[.int .i64 x, .int .i64 y, .slice V lv cv] 53)))
      have X2 : Hid (((wo.setCell ⟨w0.heap.size, j, none⟩ (.int .i64 (-1))).alloc (.cells #[.int .i64 x, .int .i64 y, .slice V lv cv] 53)).heap[wo.heap.size]? = some (.cells #[.int .i64 x, .int .i64 y, .slice V lv cv] 53 (0, 0))) := Lib.hid (by
        simpa using box_new (wo.setCell ⟨w0.heap.size, j, none⟩ (.int .i64 (-1))) #[.int .i64 x, .int .i64 y, .slice V lv cv] 53)
      have HB2 := Lib.hid ((hbw.setCell (p := ⟨w0.heap.size, j, none⟩) (Nat.le_refl _) (.int .i64 (-1))).alloc (by simpa using hbw.size) (.cells #[.int .i64 x, .int .i64 y, .slice V lv cv] 53))
      clear hown hv o1
      go_wp2_with fail
      clear hbw p1 p1f c0 c1 c2
      generalize (wo.setCell ⟨w0.heap.size, j, none⟩ (.int .i64 (-1))).alloc (.cells #[.int .i64 x, .int .i64 y, .slice V lv cv] 53) = w2 at *
      go_loopw [13, 40] (fun b i wq => ∃ q : Nat, q ≤ m2 ∧ i = .int .i64 q ∧ b = .int .i64 (nlS us rs qs j q).2 ∧ Hid (wq.heap[wo.heap.size]? = some (.cells #[.int .i64 x, .int .i64 y, .slice V lv cv] 53 (0, 0))) ∧ Hid (Own wq w0.heap.size (some ⟨w0.heap.size, 0, none⟩) m m (tabl m (nlH us rs qs j q))) ∧ Hid (Below w0.heap.size w0 wq)) (fun _ i _ => m2 - (intOf i).toNat)
      case atStart => exact ⟨0, Nat.zero_le _, rfl, rfl, X2, O2, HB2⟩
      case round =>
        clear X2 O2 HB2
        obtain ⟨q, hq, rfl, rfl, X2, O2, HB2⟩ := hrel
        obtain ⟨wm, rfl⟩ : ∃ wm : World, wm = wr := ⟨_, rfl⟩
        by_cases hqm : q < m2
        · obtain ⟨ad2, rfl, e0, e1, V2, lv2, cv2, e2, hv2⟩ := HZ.out.r.later HB2.out hqm
          have hk3 := Lib.hid (hk2.at_ (show q < qs.length by rw [HZ.out.len]; exact hqm))
          have hlvn2 : Hid (lv2 = n) := Lib.hid (by have h1 := (valsB_of hk3.out.v).1; have h2 := hk3.out.len; rw [hv2.1] at h1; omega)
          obtain ⟨x2, hxe2⟩ : ∃ x, rA qs q = x := ⟨_, rfl⟩
          obtain ⟨y2, hye2⟩ : ∃ y, rH qs q = y := ⟨_, rfl⟩
          rw [hxe2] at e0
          rw [hye2] at e1
          have HXE2 := Lib.hid hxe2
          clear hye2 hxe2
          have b3 := below_new wm (.cells #[.int .i64 x2, .int .i64 y2, .slice V2 lv2 cv2] 53)
          have q0 := box_new wm #[.int .i64 x2, .int .i64 y2, .slice V2 lv2 cv2] 53
          have p0 := box_below X2.out b3
          have HP3 := Lib.hid p0
          have HQ3 := Lib.hid q0
          have O3 := Lib.hid (O2.out.below b3)
          have HB3 := Lib.hid (HB2.out.trans (b3.mono HB2.out.size))
          have HW := Lib.hid hv2
          have g0 := box_cell p0 0 (.int .i64 x) rfl
          have f0 := box_cell q0 0 (.int .i64 x2) rfl
          have hnb := nlS_bd HS6.out rs qs j q
          have hPN := Lib.hid (show nlP rs qs j q = (x2 == x) by unfold nlP; rw [HXE.out, HXE2.out])
          clear X2 O2 HB2 hv2 b3 p0 q0
          by_cases hA : x2 = x
          · have hne : (x2 != x) = false := by simp [hA]
            have hP : Hid (nlP rs qs j q = true) := Lib.hid (by rw [hPN.out]; simp [hA])
            clear hA hPN
            go_wp2_with fail
            clear e0 e1 e2 hne
            generalize wm.alloc (.cells #[.int .i64 x2, .int .i64 y2, .slice V2 lv2 cv2] 53) = w3 at *
            go_loopw [16, 52] (fun b i wz => ∃ t : Nat, t ≤ l ∧ i = .int .i64 t ∧ b = .int .i64 (distN (rV qs q) (rV rs j) us t) ∧ Below w3.heap.size w3 wz) (fun _ i _ => l - (intOf i).toNat)
            case atStart => exact ⟨0, Nat.zero_le _, rfl, rfl, Below.refl _ _⟩
            case round =>
              obtain ⟨t, ht, rfl, rfl, hbz⟩ := hrel
              have HBz := Lib.hid (HB3.out.trans (hbz.mono HB3.out.size))
              by_cases htl : t < l
              · have hju : t < us.length := by rw [hul.out]; exact htl
                obtain ⟨hi1, hi2⟩ := hk1.out.ix_lt hju
                obtain ⟨au, rfl, hcu⟩ := (HU.out.below HBz.out).i.at_ htl
                obtain ⟨av, rfl, hcv⟩ := (HV.out.below HBz.out).at_ (show ix us t < lv by rw [hlvn.out]; exact hi1)
                obtain ⟨aw, rfl, hcw⟩ := (HW.out.below HBz.out).at_ (show ix us t < lv2 by rw [hlvn2.out]; exact hi1)
                rw [hi2] at hcu
                have z2 := (hbz.cell (p := ⟨wo.heap.size, 2, none⟩) (lt_of_block HP3.out)).trans (box_cell HP3.out 2 (.slice (some av) lv cv) rfl)
                have y2' := (hbz.cell (p := ⟨wm.heap.size, 2, none⟩) (lt_of_block HQ3.out)).trans (box_cell HQ3.out 2 (.slice (some aw) lv2 cv2) rfl)
                have hil : ix us t < lv := by rw [hlvn.out]; exact hi1
                have hil2 : ix us t < lv2 := by rw [hlvn2.out]; exact hi1
                have hdb := distN_bd (rV qs q) (rV rs j) us t
                have E1 := Lib.hid (distN_eq (xs := rV qs q) (ys := rV rs j) (us := us) (k := t))
                have E2 := Lib.hid (distN_ne (xs := rV qs q) (ys := rV rs j) (us := us) (k := t))
                have HZ1 := Lib.hid hbz
                clear hi2 hju hbz
                generalize ix us t = s at *
                generalize (rV qs q)[s]?.getD 0 = u1 at *
                generalize (rV rs j)[s]?.getD 0 = u2 at *
                by_cases e : u1 = u2
                · have R := Lib.hid (E1.out e)
                  have hne : (u1 != u2) = false := by simp [e]
                  clear e
                  go_wp2
                  go_quiet (fail)
                  go_wp2
                  go_roundw
                  case rel => exact ⟨t + 1, by omega, by go_num, by rw [R.out], below_drewN HZ1.out _⟩
                  case measure => simp [intOf]; omega
                · have R := Lib.hid (E2.out e)
                  have hne : (u1 != u2) = true := by simp [e]
                  clear e
                  generalize distN (rV qs q) (rV rs j) us t = dj at *
                  go_wp2
                  go_quiet (fail)
                  go_wp2
                  go_roundw
                  case rel => exact ⟨t + 1, by omega, by go_num, by rw [R.out], below_drewN HZ1.out _⟩
                  case measure => simp [intOf]; omega
              · obtain rfl : l = t := by omega
                have HD := Lib.hid (show distN (rV qs q) (rV rs j) us l = nlD us rs qs j q by unfold nlD; rw [hul.out])
                rw [HD.out]
                have HOz := Lib.hid (O3.out.below hbz)
                have HPz := Lib.hid (box_below HP3.out hbz)
                have hdb : 0 ≤ nlD us rs qs j q ∧ nlD us rs qs j q ≤ 6 := by have := distN_bd (rV qs q) (rV rs j) us us.length; have := HS6.out; unfold nlD; omega
                clear hbz O3 HP3 HB3
                obtain ⟨g, hg, _, _, p1, p1f⟩ := HOz.out.at_ hlt
                simp only [Option.some.injEq, Addr.mk.injEq, and_true] at hg
                subst hg
                rw [tabl_at hlt, nlH_at] at p1
                by_cases hT : (nlS us rs qs j q).1 < 0 ∨ nlD us rs qs j q < (nlS us rs qs j q).2
                · have HT := Lib.hid (show nlS us rs qs j (q + 1) = ((q : Int), nlD us rs qs j q) from nb_take hP.out hT)
                  have O5 := Lib.hid (show Own (wr.setCell ⟨w0.heap.size, j, none⟩ (.int .i64 (q : Int))) w0.heap.size (some ⟨w0.heap.size, 0, none⟩) m m (tabl m (nlH us rs qs j (q + 1))) by
                    have h1 := HOz.out.set (k := j) (x := (nlS us rs qs j (q + 1)).1)
                    rw [nlH_set] at h1
                    have h2 : (nlS us rs qs j (q + 1)).1 = (q : Int) := by rw [HT.out]
                    rw [h2] at h1
                    exact h1)
                  have HP5 := Lib.hid ((Below.heap_setCell wr ⟨w0.heap.size, j, none⟩ (.int .i64 (q : Int)) wo.heap.size (by simp; omega)).trans HPz.out)
                  have HB5 := Lib.hid (HBz.out.setCell (p := ⟨w0.heap.size, j, none⟩) (Nat.le_refl _) (.int .i64 (q : Int)))
                  have HT2 := Lib.hid (show (nlS us rs qs j (q + 1)).2 = nlD us rs qs j q by rw [HT.out])
                  generalize nlD us rs qs j q = dd at *
                  generalize (nlS us rs qs j q).1 = at1 at *
                  generalize (nlS us rs qs j q).2 = be1 at *
                  by_cases hT1 : at1 < 0
                  · clear hT
                    go_wp2
                    go_roundw
                    case rel => exact ⟨q + 1, by omega, by go_num, by rw [HT2.out], HP5, O5, HB5⟩
                    case measure => simp [intOf]; omega
                  · have hT2 : dd < be1 := by omega
                    clear hT
                    go_wp2
                    go_roundw
                    case rel => exact ⟨q + 1, by omega, by go_num, by rw [HT2.out], HP5, O5, HB5⟩
                    case measure => simp [intOf]; omega
                · have HT := Lib.hid (show nlS us rs qs j (q + 1) = nlS us rs qs j q from nb_keep hT)
                  have O5 := Lib.hid (show Own wr w0.heap.size (some ⟨w0.heap.size, 0, none⟩) m m (tabl m (nlH us rs qs j (q + 1))) by rw [← nlH_same HT.out]; exact HOz.out)
                  have hT1 : ¬ (nlS us rs qs j q).1 < 0 := fun h => hT (.inl h)
                  have hT2 : ¬ nlD us rs qs j q < (nlS us rs qs j q).2 := fun h => hT (.inr h)
                  clear hT
                  have HT2 := Lib.hid (show (nlS us rs qs j (q + 1)).2 = (nlS us rs qs j q).2 by rw [HT.out])
                  generalize nlD us rs qs j q = dd at *
                  generalize (nlS us rs qs j q).1 = at1 at *
                  generalize (nlS us rs qs j q).2 = be1 at *
                  go_wp2
                  go_roundw
                  case rel => exact ⟨q + 1, by omega, by go_num, by rw [HT2.out], HPz, O5, HBz⟩
                  case measure => simp [intOf]; omega
          · have hne : (x2 != x) = true := by simp [hA]
            have HT := Lib.hid (show nlS us rs qs j (q + 1) = nlS us rs qs j q from nb_skip (by rw [hPN.out]; simp [hA]))
            have O5 := Lib.hid (show Own (wm.alloc (.cells #[.int .i64 x2, .int .i64 y2, .slice V2 lv2 cv2] 53)) w0.heap.size (some ⟨w0.heap.size, 0, none⟩) m m (tabl m (nlH us rs qs j (q + 1))) by rw [← nlH_same HT.out]; exact O3.out)
            clear hA hPN
            go_wp2
            go_roundw
            case rel => exact ⟨q + 1, by omega, by go_num, by rw [HT.out], HP3, O5, HB3⟩
            case measure => simp [intOf]; omega
        · obtain rfl : q = m2 := by omega
          have hO2 : Own wm w0.heap.size (some ⟨w0.heap.size, 0, none⟩) m m (tabl m (nlG us rs qs (j + 1))) := by rw [← nlH_end HZ.out.len]; exact O2.out
          have hB2 := HB2.out
          clear O2 HB2
          go_wp2
          go_roundw
          case rel => exact ⟨j + 1, by omega, by go_num, hO2, hB2⟩
          case measure => simp [intOf]; omega
    · obtain rfl : j = m := by omega
      have R : tabl j (nlG us rs qs j) = nlL us rs qs := by
        unfold nlL
        rw [hml.out]
        exact tabl_congr fun t ht => by simp [nlG, ht]
      rw [R] at hown
      clear R
      go_wp2
      go_ret2
      exact ⟨_, _, by rw [HLL.out]; rfl, by rw [HLL.out]; exact (OwnI.of_own hown (by omega)).fit HB0.out.size, HB0.out.trans (hbw.mono HB0.out.size)⟩

set_option maxRecDepth 100000 in
set_option maxHeartbeats 4000000 in
theorem specNearestLinks_law (A B C U : Option Addr) (n c m d m2 d2 l k' : Nat) (vs : List (ByteArray × Int)) (rs qs : List RecD) (us : List Int) (w : World) (hx : SchR w A n c vs) (hy : DatR w B m rs) (hz : DatR w C m2 qs) (hu : IntR w U l us) :
    Calls Tryz.prog 11 #[.slice A n c, .slice B m d, .slice C m2 d2, .slice U l k'] w (RetInts w (nlR vs rs qs us) (linkedB vs rs qs us)) := by
  have hlen := hx.len
  cases hB : linkedB vs rs qs us
  · have HB := Lib.hid hB
    have HN : Hid (nlR vs rs qs us = []) := Lib.hid (by rw [nlR, if_neg (by simp [hB])])
    rw [HN.out]
    clear hB hlen
    go_enter Tryz.func11, Tryz.ntmps11
    go_wp2_with fail
    refine (liTwo_any _ _ _ _ n _ m _ m2 _ l _ vs rs qs us _ hx hy hz hu).mono ?_
    rintro e w1 ⟨rfl, b1⟩
    rw [HB.out]
    have B1 := Lib.hid b1
    clear b1 hx hy hz hu
    go_wp2
    go_ret2
    exact ⟨none, 0, rfl, OwnI.nil_, B1.out⟩
  have HB := Lib.hid hB
  have HN : Hid (nlR vs rs qs us = nlL us rs qs) := Lib.hid (by rw [nlR, if_pos hB])
  obtain ⟨hk, hk2⟩ := linked_all hlen hB
  rw [HN.out]
  have hm40 : m ≤ 40 := by have := hk.forty; rw [hy.len] at this; exact this
  have hm240 : m2 ≤ 40 := by have := hk2.forty; rw [hz.len] at this; exact this
  have hul := Lib.hid hu.len
  have hl6 : l ≤ 6 := by have := hk.part.six; rw [hul.out] at this; exact this
  have HS6 := Lib.hid hk.part.six
  have hml := Lib.hid hy.len
  have HLL := Lib.hid (show (nlL us rs qs).length = m by rw [nlL_len, hml.out])
  clear hB hlen
  go_enter Tryz.func11, Tryz.ntmps11
  go_wp2_with fail
  refine (liTwo_any _ _ _ _ n _ m _ m2 _ l _ vs rs qs us _ hx hy hz hu).mono ?_
  rintro e w0 ⟨rfl, b0⟩
  rw [HB.out]
  have HX := Lib.hid (hx.below b0)
  have HY := Lib.hid (hy.below b0)
  have HZ := Lib.hid (hz.below b0)
  have HU := Lib.hid (hu.below b0)
  have HB0 := Lib.hid b0
  clear hx hy hz hu b0
  go_wp2
  go_loopw [10, 26] (fun a i wr => ∃ (j : Nat) (D : Option Addr) (c3 : Nat), j ≤ m ∧ i = .int .i64 j ∧ a = .slice D j c3 ∧ Own wr w0.heap.size D j c3 (tabl j (nlV us rs qs)) ∧ Below w0.heap.size w0 wr) (fun _ i _ => m - (intOf i).toNat)
  case atStart => exact ⟨0, none, 0, Nat.zero_le _, rfl, rfl, Own.nil_, Below.refl _ _⟩
  case round =>
    obtain ⟨j, D, c3, hj, rfl, rfl, hown, hbw⟩ := hrel
    obtain ⟨wo, rfl⟩ : ∃ wo : World, wo = wr := ⟨_, rfl⟩
    by_cases hlt : j < m
    · obtain ⟨ad, rfl, c0, c1, V, lv, cv, c2, hv⟩ := HY.out.r.later hbw hlt
      have hk1 := Lib.hid (hk.at_ (show j < rs.length by rw [hml.out]; exact hlt))
      have hlvn : Hid (lv = n) := Lib.hid (by have h1 := (valsB_of hk1.out.v).1; have h2 := hk1.out.len; rw [hv.1] at h1; omega)
      have hlvb : lv ≤ 1099511627776 := by have := HX.out.bd; have := hlvn.out; omega
      obtain ⟨x, hxe⟩ : ∃ x, rA rs j = x := ⟨_, rfl⟩
      obtain ⟨y, hye⟩ : ∃ y, rH rs j = y := ⟨_, rfl⟩
      rw [hxe] at c0
      rw [hye] at c1
      have HXE := Lib.hid hxe
      clear hye hxe
      have b1 := below_new wo (.cells #[.int .i64 x, .int .i64 y, .slice V lv cv] 53)
      have X2 := Lib.hid (box_new wo #[.int .i64 x, .int .i64 y, .slice V lv cv] 53)
      have O2 := Lib.hid (hown.below b1)
      have HV := Lib.hid hv
      have HB2 := Lib.hid (hbw.trans (b1.mono hbw.size))
      clear hown hv b1
      go_wp2_with fail
      clear hbw c0 c1 c2
      generalize wo.alloc (.cells #[.int .i64 x, .int .i64 y, .slice V lv cv] 53) = w2 at *
      go_loopw [13, 14, 32] (fun a b i wq => ∃ q : Nat, q ≤ m2 ∧ i = .int .i64 q ∧ a = .int .i64 (nlS us rs qs j q).1 ∧ b = .int .i64 (nlS us rs qs j q).2 ∧ Hid (wq.heap[wo.heap.size]? = some (.cells #[.int .i64 x, .int .i64 y, .slice V lv cv] 53 (0, 0))) ∧ Hid (Own wq w0.heap.size D j c3 (tabl j (nlV us rs qs))) ∧ Hid (Below w0.heap.size w0 wq)) (fun _ _ i _ => m2 - (intOf i).toNat)
      case atStart => exact ⟨0, Nat.zero_le _, rfl, rfl, rfl, X2, O2, HB2⟩
      case round =>
        clear X2 O2 HB2
        obtain ⟨q, hq, rfl, rfl, rfl, X2, O2, HB2⟩ := hrel
        obtain ⟨wm, rfl⟩ : ∃ wm : World, wm = wr := ⟨_, rfl⟩
        by_cases hqm : q < m2
        · obtain ⟨ad2, rfl, e0, e1, V2, lv2, cv2, e2, hv2⟩ := HZ.out.r.later HB2.out hqm
          have hk3 := Lib.hid (hk2.at_ (show q < qs.length by rw [HZ.out.len]; exact hqm))
          have hlvn2 : Hid (lv2 = n) := Lib.hid (by have h1 := (valsB_of hk3.out.v).1; have h2 := hk3.out.len; rw [hv2.1] at h1; omega)
          have hlvb2 : lv2 ≤ 1099511627776 := by have := HX.out.bd; have := hlvn2.out; omega
          obtain ⟨x2, hxe2⟩ : ∃ x, rA qs q = x := ⟨_, rfl⟩
          obtain ⟨y2, hye2⟩ : ∃ y, rH qs q = y := ⟨_, rfl⟩
          rw [hxe2] at e0
          rw [hye2] at e1
          have HXE2 := Lib.hid hxe2
          clear hye2 hxe2
          have b3 := below_new wm (.cells #[.int .i64 x2, .int .i64 y2, .slice V2 lv2 cv2] 53)
          have q0 := box_new wm #[.int .i64 x2, .int .i64 y2, .slice V2 lv2 cv2] 53
          have p0 := box_below X2.out b3
          have HP3 := Lib.hid p0
          have HQ3 := Lib.hid q0
          have O3 := Lib.hid (O2.out.below b3)
          have HB3 := Lib.hid (HB2.out.trans (b3.mono HB2.out.size))
          have HW := Lib.hid hv2
          have hnb := nlS_bd HS6.out rs qs j q
          have hPN := Lib.hid (show nlP rs qs j q = (x == x2) by unfold nlP; rw [HXE.out, HXE2.out, Bool.beq_comm])
          have hdb : 0 ≤ nlD us rs qs j q ∧ nlD us rs qs j q ≤ 6 := by have := distN_bd (rV qs q) (rV rs j) us us.length; have := HS6.out; unfold nlD; omega
          have HD := Lib.hid (show distN (rV rs j) (rV qs q) us l = nlD us rs qs j q by unfold nlD; rw [distN_comm, hul.out])
          clear X2 O2 HB2 hv2 b3 p0 q0
          go_wp2_with fail
          clear e0 e1 e2
          generalize wm.alloc (.cells #[.int .i64 x2, .int .i64 y2, .slice V2 lv2 cv2] 53) = w3 at *
          have h0 := box_cell HP3.out 2 (.slice V lv cv) rfl
          have h2 := box_cell HQ3.out 2 (.slice V2 lv2 cv2) rfl
          have l0 := lt_of_block HP3.out
          have l2 := lt_of_block HQ3.out
          go_cut [17] from 37 to 46 (fun u wx => u = .int .i64 (nlD us rs qs j q) ∧ Below w3.heap.size w3 wx)
          case first =>
            have B90 := (Below.refl w3.heap.size w3).drew
            have Y0 : IntR w3.drew V lv (rV rs j) := ⟨HV.out.below HB3.out.drew, hlvb⟩
            have Z0 : IntR w3.drew V2 lv2 (rV qs q) := ⟨HW.out.below HB3.out.drew, hlvb2⟩
            have U0 : IntR w3.drew U l us := HU.out.below HB3.out.drew
            have hr1 : ∀ k, k < l → ix us k < lv ∧ us[k]?.getD 0 = (ix us k : Int) := fun k hkl => by rw [hlvn.out]; exact hk1.out.ix_lt (by rw [hul.out]; exact hkl)
            have hr2 : ∀ k, k < l → ix us k < lv2 ∧ us[k]?.getD 0 = (ix us k : Int) := fun k hkl => by rw [hlvn2.out]; exact hk1.out.ix_lt (by rw [hul.out]; exact hkl)
            have HR1 := Lib.hid hr1
            have HR2 := Lib.hid hr2
            clear hr1 hr2
            go_region_held3 (fun w' => w'.cell? ⟨wo.heap.size, 2, none⟩ = some (.slice V lv cv) ∧ w'.cell? ⟨wm.heap.size, 2, none⟩ = some (.slice V2 lv2 cv2)) (first | exact ⟨s0, s2⟩ | exact ⟨r0, r2⟩ | exact ⟨t0, t2⟩ | exact ⟨h0, h2⟩ | go_keep) (first
              | (go_at_call 35; refine (sPick_any _ _ _ _ l _ _ us _ (by first | exact Y1 | exact Z1 | exact Y0 | exact Z0) (by first | exact U1 | exact U0) (by first | exact HR1.out | exact HR2.out)).mono ?_; rintro e w4 ⟨A4, c4, rfl, o4, b4⟩; (first | (have B2 := keepB B1 (Nat.le_refl _) b4; have oA2 := oA1.below b4; have oB2 := o4; have s0 := (b4.cell (p := ⟨wo.heap.size, 2, none⟩) (Nat.lt_of_lt_of_le l0 B1.size)).trans r0; have s2 := (b4.cell (p := ⟨wm.heap.size, 2, none⟩) (Nat.lt_of_lt_of_le l2 B1.size)).trans r2) | (have B1 := keepB B90 (Nat.le_refl _) b4; have oA1 := o4; have Y1 := Y0.below b4; have Z1 := Z0.below b4; have U1 := U0.below b4; have r0 := (b4.cell (p := ⟨wo.heap.size, 2, none⟩) l0).trans h0; have r2 := (b4.cell (p := ⟨wm.heap.size, 2, none⟩) l2).trans h2)))
              | (go_at_call 34; refine (sDistance_any _ _ l _ _ (rV rs j) (rV qs q) us _ (by first | exact oA2.ints | exact oB2.ints) (by first | exact oB2.ints | exact oA2.ints) (by omega)).mono ?_; rintro e w5 ⟨rfl, b5⟩; rw [HD.out]; have B3 := keepB B2 (Nat.le_refl _) b5; have t0 := (b5.cell (p := ⟨wo.heap.size, 2, none⟩) (Nat.lt_of_lt_of_le l0 B2.size)).trans s0; have t2 := (b5.cell (p := ⟨wm.heap.size, 2, none⟩) (Nat.lt_of_lt_of_le l2 B2.size)).trans s2))
            all_goals (go_wp2_with fail; go_meet; exact ⟨rfl, B3⟩)
          case rest =>
          obtain ⟨rfl, hb4⟩ := hcut
          clear h0 h2
          generalize wc = w4 at *
          have HP4 := Lib.hid (box_below HP3.out hb4)
          have HQ4 := Lib.hid (box_below HQ3.out hb4)
          have O4 := Lib.hid (O3.out.below hb4)
          have HB4 := Lib.hid (HB3.out.trans (hb4.mono HB3.out.size))
          clear HP3 HQ3 O3 HB3 hb4 l0 l2
          have g0 := box_cell HP4.out 0 (.int .i64 x) rfl
          have f0 := box_cell HQ4.out 0 (.int .i64 x2) rfl
          by_cases hA : x = x2
          · have hne : (x == x2) = true := by simp [hA]
            have hP : Hid (nlP rs qs j q = true) := Lib.hid (by rw [hPN.out]; simp [hA])
            clear hA hPN
            by_cases hT : (nlS us rs qs j q).1 < 0 ∨ nlD us rs qs j q < (nlS us rs qs j q).2
            · have HT := Lib.hid (show nlS us rs qs j (q + 1) = ((q : Int), nlD us rs qs j q) from nb_take hP.out hT)
              have HT1 := Lib.hid (show (nlS us rs qs j (q + 1)).1 = (q : Int) by rw [HT.out])
              have HT2 := Lib.hid (show (nlS us rs qs j (q + 1)).2 = nlD us rs qs j q by rw [HT.out])
              generalize nlD us rs qs j q = dd at *
              generalize (nlS us rs qs j q).1 = at1 at *
              generalize (nlS us rs qs j q).2 = be1 at *
              by_cases hT1 : at1 < 0
              · clear hT
                go_wp2
                go_roundw
                case rel => exact ⟨q + 1, by omega, by go_num, by rw [HT1.out], by rw [HT2.out], HP4, O4, HB4⟩
                case measure => simp [intOf]; omega
              · have hT2 : dd < be1 := by omega
                clear hT
                go_wp2
                go_roundw
                case rel => exact ⟨q + 1, by omega, by go_num, by rw [HT1.out], by rw [HT2.out], HP4, O4, HB4⟩
                case measure => simp [intOf]; omega
            · have HT := Lib.hid (show nlS us rs qs j (q + 1) = nlS us rs qs j q from nb_keep hT)
              have hT1 : ¬ (nlS us rs qs j q).1 < 0 := fun h => hT (.inl h)
              have hT2 : ¬ nlD us rs qs j q < (nlS us rs qs j q).2 := fun h => hT (.inr h)
              clear hT
              have HTa := Lib.hid (show (nlS us rs qs j (q + 1)).1 = (nlS us rs qs j q).1 by rw [HT.out])
              have HTb := Lib.hid (show (nlS us rs qs j (q + 1)).2 = (nlS us rs qs j q).2 by rw [HT.out])
              generalize nlD us rs qs j q = dd at *
              generalize (nlS us rs qs j q).1 = at1 at *
              generalize (nlS us rs qs j q).2 = be1 at *
              go_wp2
              go_roundw
              case rel => exact ⟨q + 1, by omega, by go_num, by rw [HTa.out], by rw [HTb.out], HP4, O4, HB4⟩
              case measure => simp [intOf]; omega
          · have hne : (x == x2) = false := by simp [hA]
            have HT := Lib.hid (show nlS us rs qs j (q + 1) = nlS us rs qs j q from nb_skip (by rw [hPN.out]; simp [hA]))
            clear hA hPN
            go_wp2
            go_roundw
            case rel => exact ⟨q + 1, by omega, by go_num, by rw [HT.out], by rw [HT.out], HP4, O4, HB4⟩
            case measure => simp [intOf]; omega
        · obtain rfl : q = m2 := by omega
          have HVV := Lib.hid (show (nlS us rs qs j q).1 = nlV us rs qs j by unfold nlV; rw [HZ.out.len])
          have R := Lib.hid (show tabl (j + 1) (nlV us rs qs) = tabl j (nlV us rs qs) ++ [nlV us rs qs j] from tabl_succ _ _)
          rw [HVV.out]
          have hO2 := O2.out
          have hB2 := HB2.out
          have hsz := hB2.size
          generalize nlV us rs qs j = v at *
          clear O2 HB2
          go_wp2_with (at_builtin; refine wp_app1 (v := v) rfl _ _ rfl w0.heap.size D j c3 _ rfl hO2 _ rfl rfl (by omega) hsz ?_; intro A3 c4 w6 hown3 hg3 _)
          have hb3 := Lib.hid (below_write hB2 hg3 hsz (fun k hk => (hO2.row_ge k hk).1))
          rw [← R.out] at hown3
          have HO := Lib.hid hown3
          clear hO2 hB2 hg3 hown3
          go_wp2
          go_roundw
          case rel => exact ⟨j + 1, A3, c4, by omega, by go_num, rfl, HO.out, hb3.out⟩
          case measure => simp [intOf]; omega
    · obtain rfl : j = m := by omega
      have R : tabl j (nlV us rs qs) = nlL us rs qs := by unfold nlL; rw [hml.out]
      rw [R] at hown
      clear R
      go_wp2
      go_ret2
      exact ⟨_, _, by rw [HLL.out]; rfl, by rw [HLL.out]; exact (OwnI.of_own hown (by omega)).fit HB0.out.size, HB0.out.trans (hbw.mono HB0.out.size)⟩
end Go.Proofs.YtgeilnkglbcmeaaGreat
