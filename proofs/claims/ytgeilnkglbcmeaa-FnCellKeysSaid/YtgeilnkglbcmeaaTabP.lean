/- Noise tables: counts perturbed, by the program. -/
import Derived.Test.YtgeilnkglbcmeaaTabG
namespace Go.Proofs.Ytgeilnkglbcmeaa
open Go.RowKit

def nzP (n : Nat) (S : Nat → List Int) (cs ks : List Int) (i : Nat) : Int := cs[i]?.getD 0 + nzAt n S (cs[i]?.getD 0).toNat (ks[i]?.getD 0).toNat
def nzG (n : Nat) (S : Nat → List Int) (cs ks : List Int) (j : Nat) : Nat → Int := fun t => if t < j then nzP n S cs ks t else 0
theorem nzG_next {n m j : Nat} {S : Nat → List Int} {cs ks : List Int} : (tabl m (nzG n S cs ks j)).set j (nzP n S cs ks j) = tabl m (nzG n S cs ks (j + 1)) := by
  rw [tabl_set]
  refine tabl_congr fun t _ => ?_
  unfold nzG
  by_cases h1 : t = j
  · subst h1; rw [if_pos rfl, if_pos (by omega)]
  · rw [if_neg h1]
    by_cases h2 : t < j
    · rw [if_pos h2, if_pos (by omega)]
    · rw [if_neg h2, if_neg (by omega)]
theorem nzAt_bd {n x y : Nat} {S : Nat → List Int} (h : nzTab n S = true) (hy : y < 65536) : -5 ≤ nzAt n S x y ∧ nzAt n S x y ≤ 5 := by
  obtain ⟨h1, h2⟩ := nzTab_of h
  have h3 := (h2 (min x (n - 1)) (by omega)).2 (y / 4096) (by omega)
  have := nzV_of h3
  unfold nzAt
  omega

set_option maxRecDepth 100000 in
set_option maxHeartbeats 2000000 in
theorem perturb_any (A C D : Option Addr) (n c m d d2 : Nat) (S : Nat → List Int) (cs ks : List Int) (w : World) (hs : IntsS w A n S) (ht : nzTab n S = true) (hc : Ints w C m cs) (hk : Ints w D m ks) (hm : m ≤ 1000) (hcr : ∀ j, j < m → 0 ≤ cs[j]?.getD 0 ∧ cs[j]?.getD 0 ≤ 1000000) (hkr : allR ks 0 65535 = true) :
    Calls Try.prog 33 #[.agg #[.slice A n c], .slice C m d, .slice D m d2] w (RetInts w (tabl m (nzP n S cs ks)) true) := by
  obtain ⟨h1, h2⟩ := nzTab_of ht
  have HT := Lib.hid ht
  have HK := Lib.hid hkr
  have HL := Lib.hid (fun j hj => (h2 j hj).1)
  have HL2 := Lib.hid (fun j (hj : j < n) => (show (S j).length ≤ 1099511627776 by have := (h2 j hj).1; omega))
  have HR := Lib.hid hcr
  have x0 := box_new w #[.slice A n c] 33
  have b0 := below_new w (.cells #[.slice A n c] 33)
  have xc := box_cell x0 0 _ rfl
  have hd1 : decide ((1000 : Int) < (m : Int)) = false := by simp; omega
  have hd2 : ((m : Int) != (m : Int)) = false := by simp
  have hn20 := h1.2
  clear h2 ht hkr hcr
  obtain ⟨i0, hi, hz0, hz1, hz2⟩ := info_parts Try.infoInt
  go_enter Try.func33, Try.ntmps33
  go_wp2_with fail
  generalize w.alloc (.cells #[.slice A n c] 33) = w1 at *
  refine (isNoise_any _ n c S _ (hs.below b0) (by omega) HL2.out).mono ?_
  rintro e w2 ⟨rfl, b1⟩
  rw [HT.out]
  replace x0 := box_below x0 b1
  have b2 := b0.trans (b1.mono b0.size)
  clear xc b0 b1
  go_wp2_with fail
  refine (areKeys_any _ m _ ks _ ⟨hk.below b2, by omega⟩).mono ?_
  rintro e w3 ⟨rfl, rfl⟩
  rw [HK.out]
  clear hd1 hd2
  go_wp2_with (at_make; refine wpList_make_full _ rfl _ _ 27 rfl w2.heap.size 3 i0 _ 1 Try.underlying27 hi hz0 hz1 .i64 .i64 _ _ m rfl rfl rfl rfl (by rw [hz2]; omega) (by unfold maxLen; omega) (Nat.le_refl _) ?_; intro w4 hown hg)
  rw [map_replicate0] at hown
  have hO : Own w4 w2.heap.size (some ⟨w2.heap.size, 0, none⟩) m m (tabl m (nzG n S cs ks 0)) := by
    have e : tabl m (nzG n S cs ks 0) = List.replicate m 0 := by rw [tabl_zero]; exact tabl_congr fun t _ => by simp [nzG]
    rw [e]; exact hown
  have hb4 : Below w2.heap.size w2 w4 := (Below.refl _ _).grown hg (Nat.le_refl _) (by simp)
  have B2 := Lib.hid b2
  have X0 := Lib.hid x0
  have HC := Lib.hid (hc.below b2)
  have HD := Lib.hid (hk.below b2)
  have HS := Lib.hid (hs.below b2)
  have HKL := Lib.hid hk.1
  clear hown hg hi hz0 hz1 hz2 x0 b2 hs hc hk
  go_loopw [36] (fun i wr => ∃ j : Nat, j ≤ m ∧ i = .int .i64 j ∧ Own wr w2.heap.size (some ⟨w2.heap.size, 0, none⟩) m m (tabl m (nzG n S cs ks j)) ∧ Below w2.heap.size w2 wr) (fun i _ => m - (intOf i).toNat)
  case atStart => exact ⟨0, Nat.zero_le _, rfl, hO, hb4⟩
  case round =>
    clear hO hb4
    obtain ⟨j, hj, rfl, hown, hbw⟩ := hrel
    obtain ⟨wo, rfl⟩ : ∃ wo : World, wo = wr := ⟨_, rfl⟩
    have HBW := Lib.hid hbw
    by_cases hlt : j < m
    · obtain ⟨ac, rfl, hcc⟩ := (HC.out.below hbw).at_ hlt
      obtain ⟨ak, rfl, hck⟩ := (HD.out.below hbw).at_ hlt
      have hr := HR.out j hlt
      have hkr := allR_of HK.out j (by rw [HKL.out]; exact hlt)
      obtain ⟨v, hve⟩ : ∃ v : Nat, cs[j]?.getD 0 = (v : Int) := ⟨(cs[j]?.getD 0).toNat, by omega⟩
      obtain ⟨y, hye⟩ : ∃ y : Nat, ks[j]?.getD 0 = (y : Int) := ⟨(ks[j]?.getD 0).toNat, by omega⟩
      have HPV : Hid (nzP n S cs ks j = (v : Int) + nzAt n S v y) := Lib.hid (by unfold nzP; rw [hve, hye]; simp)
      rw [hve] at hcc hr
      rw [hye] at hck hkr
      have hbd := nzAt_bd (x := v) HT.out (show y < 65536 by omega)
      have HS3 := Lib.hid (HS.out.below hbw)
      have xb := box_below X0.out hbw
      have xc := box_cell xb 0 _ rfl
      obtain ⟨g, hg, hgl, hgs, p1, p1f⟩ := hown.at_ hlt
      simp only [Option.some.injEq, Addr.mk.injEq, and_true] at hg
      subst hg
      have HO := Lib.hid hown
      have d1 : decide ((v : Int) < 0) = false := by simp
      have d2 : decide ((1000000 : Int) < (v : Int)) = false := by simp; omega
      have hw : IntKind.i64.wrap ((v : Int) + nzAt n S v y) = (v : Int) + nzAt n S v y := IntWalk.i64_in _ (by omega)
      have hv6 : v ≤ 1000000 := by omega
      have hy6 : y < 65536 := by omega
      clear hve hye hown hbw xb
      go_wp2
      go_region_with (go_at_call 91; refine (noiseOf_any _ n c v y S _ (by exact HS3.out) h1.1 hn20 HL.out hv6 hy6).mono ?_; rintro e w9 ⟨rfl, b9⟩; have o9 : Own w9 w2.heap.size (some ⟨w2.heap.size, 0, none⟩) m m (tabl m (nzG n S cs ks j)) := HO.out.keep (fun g _ hg => b9.block g hg); obtain ⟨g9, e9, _, _, q1, q1f⟩ := o9.at_ hlt; simp only [Option.some.injEq, Addr.mk.injEq, and_true] at e9; subst e9; have o10 := o9.set (k := j) (x := (v : Int) + nzAt n S v y); rw [← HPV.out, nzG_next, HPV.out] at o10; have b9' : Below wo.heap.size wo w9 := (by first | exact b9 | exact (Below.refl _ _).drew.trans b9); have b10 := (HBW.out.trans (b9'.mono HBW.out.size)).setCell (p := ⟨w2.heap.size, j, none⟩) (Nat.le_refl _) (.int .i64 ((v : Int) + nzAt n S v y)); have O10 := Lib.hid o10; have B10 := Lib.hid b10; clear o9 o10 b10 b9')
      all_goals (go_wp2; go_roundw)
      all_goals first | exact ⟨j + 1, by omega, by go_num, O10.out, B10.out⟩ | (simp [intOf]; omega)
    · obtain rfl : m = j := by omega
      go_wp2
      go_ret2
      have e : tabl m (nzG n S cs ks m) = tabl m (nzP n S cs ks) := tabl_congr fun t ht => by unfold nzG; rw [if_pos ht]
      rw [e] at hown
      have hl := tabl_len m (nzP n S cs ks)
      refine ⟨some ⟨w2.heap.size, 0, none⟩, m, by rw [hl]; rfl, ?_, B2.out.trans (HBW.out.mono B2.out.size)⟩
      rw [hl]
      exact (OwnI.of_own hown (by omega)).fit B2.out.size
end Go.Proofs.Ytgeilnkglbcmeaa
