/- Several small texts in one: TabN, TabK, TabG. -/
import Derived.Test.YtgeilnkglbcmeaaTab
namespace Go.Proofs.Ytgeilnkglbcmeaa

section
open Go.RowKit

/-- The element for a count and a key. -/
def nzAt (n : Nat) (S : Nat → List Int) (x y : Nat) : Int := (S (min x (n - 1)))[y / 4096]?.getD 0

set_option maxHeartbeats 1000000 in
theorem rowFor_any (A : Option Addr) (n c x : Nat) (S : Nat → List Int) (w : World) (hs : IntsS w A n S) (h1 : 1 ≤ n) (h20 : n ≤ 20) (hl : ∀ j, j < n → (S j).length = 16) (hx : x ≤ 1000000) :
    Calls Try.prog 84 #[.agg #[.slice A n c], .int .i64 x] w fun e w' => ∃ V cv, e = .returned (.slice V 16 cv) ∧ Ints w' V 16 (S (min x (n - 1))) ∧ Below w.heap.size w w' := by
  have x0 := box_new w #[.slice A n c] 33
  have b0 := below_new w (.cells #[.slice A n c] 33)
  have xc := box_cell x0 0 _ rfl
  obtain ⟨ad, rfl, V, cv, hc, hv⟩ := (hs.below b0).at_ (k := min x (n - 1)) (by omega)
  have hk : min x (n - 1) < n := by omega
  rw [hl _ hk] at hc hv
  have HV := Lib.hid hv
  have HB := Lib.hid b0
  by_cases hxn : x ≤ n - 1
  · have hi : (x : Int) ≤ (n : Int) - 1 := by omega
    rw [show min x (n - 1) = x by omega] at hc
    clear hs hl hv b0 x0 hk hxn
    go_enter Try.func84, Try.ntmps84
    go_wp2
    go_ret
    exact ⟨V, cv, rfl, HV.out, HB.out⟩
  · have hi : ¬ (x : Int) ≤ (n : Int) - 1 := by omega
    rw [show min x (n - 1) = n - 1 by omega] at hc
    clear hs hl hv b0 x0 hk hxn
    go_enter Try.func84, Try.ntmps84
    go_wp2
    go_ret
    exact ⟨V, ⟨cv, rfl⟩, HV.out, HB.out⟩

theorem l1Least_any (a b : Int) (w : World) :
    Calls Try.prog 87 #[.int .i64 a, .int .i64 b] w fun e w' => e = .returned (.int .i64 (min a b)) ∧ w = w' := by
  by_cases h : a < b
  · have e : min a b = a := by omega
    rw [e]
    have hd : decide (a < b) = true := by simp [h]
    clear e
    go_enter Try.func87, Try.ntmps87
    go_wp2
    go_ret
    exact ⟨rfl, rfl⟩
  · have e : min a b = b := by omega
    rw [e]
    have hd : decide (a < b) = false := by simp [h]
    clear e
    go_enter Try.func87, Try.ntmps87
    go_wp2
    go_ret
    exact ⟨rfl, rfl⟩

set_option maxHeartbeats 1000000 in
theorem yRow_any (A : Option Addr) (n c x : Nat) (S : Nat → List Int) (w : World) (hs : IntsS w A n S) (h1 : 1 ≤ n) (h20 : n ≤ 20) (hl : ∀ j, j < n → (S j).length = 16) (_hx : x ≤ 1000000) :
    Calls Try.prog 89 #[.agg #[.slice A n c], .int .i64 x] w fun e w' => ∃ V cv, e = .returned (.slice V 16 cv) ∧ Ints w' V 16 (S (min x (n - 1))) ∧ Below w.heap.size w w' := by
  have x0 := box_new w #[.slice A n c] 33
  have b0 := below_new w (.cells #[.slice A n c] 33)
  have xc := box_cell x0 0 _ rfl
  obtain ⟨ad, rfl, V, cv, hc, hv⟩ := (hs.below b0).at_ (k := min x (n - 1)) (by omega)
  have hm : min (x : Int) ((n : Int) - 1) = ((min x (n - 1) : Nat) : Int) := by
    rcases Nat.le_total x (n - 1) with h | h
    · rw [Nat.min_eq_left h]; omega
    · rw [Nat.min_eq_right h]; omega
  have hk : min x (n - 1) < n := by omega
  rw [hl _ hk] at hc hv
  have HV := Lib.hid hv
  have HB := Lib.hid b0
  have HM := Lib.hid hm
  have hw : IntKind.i64.wrap ((n : Int) - 1) = (n : Int) - 1 := IntWalk.i64_in _ (by omega)
  clear hs hl hv b0 x0 hm
  generalize min x (n - 1) = k at *
  go_enter Try.func89, Try.ntmps89
  go_wp2
  generalize w.alloc (.cells #[.slice (some ad) n c] 33) = w1 at *
  go_region_held3 (fun w' => w'.cell? ⟨w.heap.size, 0, none⟩ = some (.slice (some ad) n c) ∧ w'.cell? (ad.add k) = some (.slice V 16 cv)) (first | exact ⟨xc, hc⟩ | go_keep) ((go_at_call 87; refine (l1Least_any _ _ _).mono ?_; rintro e w9 ⟨rfl, rfl⟩; rw [HM.out]))
  all_goals (go_wp2; go_ret; exact ⟨V, cv, rfl, HV.out, HB.out.drew⟩)

set_option maxHeartbeats 1000000 in
theorem noiseOf_any (A : Option Addr) (n c x y : Nat) (S : Nat → List Int) (w : World) (hs : IntsS w A n S) (h1 : 1 ≤ n) (h20 : n ≤ 20) (hl : ∀ j, j < n → (S j).length = 16) (hx : x ≤ 1000000) (hy : y < 65536) :
    Calls Try.prog 91 #[.agg #[.slice A n c], .int .i64 x, .int .i64 y] w fun e w' => e = .returned (.int .i64 (nzAt n S x y)) ∧ Below w.heap.size w w' := by
  have x0 := box_new w #[.slice A n c] 33
  have b0 := below_new w (.cells #[.slice A n c] 33)
  have xc := box_cell x0 0 _ rfl
  have HS := Lib.hid (hs.below b0)
  have HB := Lib.hid b0
  have HL := Lib.hid hl
  have hz : nzAt n S x y = (S (min x (n - 1)))[y / 4096]?.getD 0 := rfl
  have HZ := Lib.hid hz
  rw [HZ.out]
  clear hs hl b0 x0 hz
  go_enter Try.func91, Try.ntmps91
  go_wp2_with fail
  refine (rowFor_any _ n c x S _ HS.out h1 h20 HL.out hx).mono ?_
  rintro e w2 ⟨V, cv, rfl, hv, b1⟩
  obtain ⟨av, rfl, hcv⟩ := hv.at_ (k := y / 4096) (by omega)
  have hy2 : y / 4096 < 16 := by omega
  have htd : (y : Int).tdiv 4096 = ((y / 4096 : Nat) : Int) := by rw [Int.tdiv_eq_ediv_of_nonneg (by omega)]; rfl
  have B2 := Lib.hid (HB.out.trans (b1.mono HB.out.size))
  clear xc b1 hv
  go_wp2
  go_ret
  exact ⟨rfl, B2.out⟩

set_option maxHeartbeats 1000000 in
theorem yNoise_any (A : Option Addr) (n c x y : Nat) (S : Nat → List Int) (w : World) (hs : IntsS w A n S) (h1 : 1 ≤ n) (h20 : n ≤ 20) (hl : ∀ j, j < n → (S j).length = 16) (hx : x ≤ 1000000) (hy : y < 65536) :
    Calls Try.prog 107 #[.agg #[.slice A n c], .int .i64 x, .int .i64 y] w fun e w' => e = .returned (.int .i64 (nzAt n S x y)) ∧ Below w.heap.size w w' := by
  have x0 := box_new w #[.slice A n c] 33
  have b0 := below_new w (.cells #[.slice A n c] 33)
  have xc := box_cell x0 0 _ rfl
  have HS := Lib.hid (hs.below b0)
  have HB := Lib.hid b0
  have HL := Lib.hid hl
  have hz : nzAt n S x y = (S (min x (n - 1)))[y / 4096]?.getD 0 := rfl
  have HZ := Lib.hid hz
  rw [HZ.out]
  clear hs hl b0 x0 hz
  go_enter Try.func107, Try.ntmps107
  go_wp2_with fail
  refine (yRow_any _ n c x S _ HS.out h1 h20 HL.out hx).mono ?_
  rintro e w2 ⟨V, cv, rfl, hv, b1⟩
  obtain ⟨av, rfl, hcv⟩ := hv.at_ (k := y / 4096) (by omega)
  have hy2 : y / 4096 < 16 := by omega
  have htd : (y : Int).tdiv 4096 = ((y / 4096 : Nat) : Int) := by rw [Int.tdiv_eq_ediv_of_nonneg (by omega)]; rfl
  have B2 := Lib.hid (HB.out.trans (b1.mono HB.out.size))
  clear xc b1 hv
  go_wp2
  go_ret
  exact ⟨rfl, B2.out⟩
end

section
open Go.RowKit

theorem allR_all {xs : List Int} {lo hi : Int} (h : ∀ k, k < xs.length → inR (xs[k]?.getD 0) lo hi = true) : allR xs lo hi = true := by
  simp only [allR, List.all_eq_true]
  intro x hx
  obtain ⟨k, hk, rfl⟩ := List.mem_iff_getElem.1 hx
  have := h k hk
  rw [List.getElem?_eq_getElem hk] at this
  exact this

set_option maxHeartbeats 1000000 in
theorem areKeys_any (A : Option Addr) (n c : Nat) (xs : List Int) (w : World) (hx : IntR w A n xs) :
    Calls Try.prog 90 #[.slice A n c] w fun e w' => e = .returned (.bool (allR xs 0 65535)) ∧ w = w' := by
  have hn := hx.bd
  have hl := Lib.hid hx.len
  have HX := Lib.hid hx.i
  clear hx
  go_enter Try.func90, Try.ntmps90
  go_wp2
  go_loopw [7] (fun i wr => ∃ k : Nat, k ≤ n ∧ i = .int .i64 k ∧ wr = w ∧ Hid (∀ j, j < k → inR (xs[j]?.getD 0) 0 65535 = true)) (fun i _ => n - (intOf i).toNat)
  case atStart => exact ⟨0, Nat.zero_le _, rfl, rfl, Lib.hid fun j hj => absurd hj (by omega)⟩
  case round =>
    obtain ⟨k, hk, rfl, rfl, HK⟩ := hrel
    by_cases hlt : k < n
    · obtain ⟨ad, rfl, hc⟩ := HX.out.at_ hlt
      have HN : Hid (inR (xs[k]?.getD 0) 0 65535 = false → allR xs 0 65535 = false) := Lib.hid fun h => allR_no (by rw [hl.out]; exact hlt) h
      have HY : Hid (inR (xs[k]?.getD 0) 0 65535 = true → ∀ j, j < k + 1 → inR (xs[j]?.getD 0) 0 65535 = true) := Lib.hid fun h j hj => by
        rcases Nat.lt_or_ge j k with h1 | h1
        · exact HK.out j h1
        · rw [show j = k by omega]; exact h
      obtain ⟨v, hve⟩ : ∃ v, xs[k]?.getD 0 = v := ⟨_, rfl⟩
      rw [hve] at hc HN HY
      clear hve
      by_cases h1 : v < 0
      · have HR := Lib.hid (HN.out (inR_no (by omega)))
        have e1 : decide (v < 0) = true := by simp; omega
        clear HN HY
        go_wp2
        go_ret
        exact ⟨ret_bool HR.out.symm, rfl⟩
      have e1 : decide (v < 0) = false := by simp; omega
      by_cases h2 : 65536 ≤ v
      · have HR := Lib.hid (HN.out (inR_no (by omega)))
        have e2 : decide (65536 ≤ v) = true := by simp; omega
        clear HN HY
        go_wp2
        go_ret
        exact ⟨ret_bool HR.out.symm, rfl⟩
      have e2 : decide (65536 ≤ v) = false := by simp; omega
      have HR := Lib.hid (HY.out (inR_yes (by omega) (by omega)))
      clear HN HY
      go_wp2
      go_roundw
      case rel => exact ⟨k + 1, by omega, by go_num, by first | trivial | rfl, HR⟩
      case measure => simp [intOf]; omega
    · obtain rfl : k = n := by omega
      have HR := Lib.hid (allR_all (xs := xs) (lo := 0) (hi := 65535) (by rw [hl.out]; exact HK.out))
      go_wp2
      go_ret
      exact ⟨ret_bool HR.out.symm, rfl⟩
end

section
open Go.RowKit

section
variable {c : Nat} {xs : List Int}
theorem nzRow_of (h : nzRow c xs = true) : xs.length = 16 ∧ ∀ k, k < xs.length → nzV c (xs[k]?.getD 0) = true := by
  simp only [nzRow, Bool.and_eq_true, decide_eq_true_eq] at h
  exact ⟨h.1, allTo_of h.2⟩
theorem nzV_zero {v : Int} (h : nzV 0 v = true) : v = 0 := (of_decide_eq_true h).2.2.2 rfl
theorem nzRow_g1 (h : allR xs (maxI (-(c : Int)) (-5)) 5 = false) : nzRow c xs = false := by
  cases hr : nzRow c xs
  · rfl
  · obtain ⟨_, h2⟩ := nzRow_of hr
    rw [allR_all fun k hk => inR_yes (by have := nzV_of (h2 k hk); unfold maxI; split <;> omega) (nzV_of (h2 k hk)).2.1] at h
    cases h
theorem nzRow_g2 (h : allR xs 0 0 = false) : nzRow 0 xs = false := by
  cases hr : nzRow 0 xs
  · rfl
  · obtain ⟨_, h2⟩ := nzRow_of hr
    rw [allR_all fun k hk => inR_yes (by have := nzV_zero (h2 k hk); omega) (by have := nzV_zero (h2 k hk); omega)] at h
    cases h
theorem nzRow_gy (h0 : xs.length = 16) (h : allR xs (maxI (-(c : Int)) (-5)) 5 = true) (hz : c = 0 → allR xs 0 0 = true) : nzRow c xs = true := by
  refine nzRow_yes h0 (allTo_yes fun k hk => ?_)
  have h1 := allR_of h k (by omega)
  have h2 : c = 0 → xs[k]?.getD 0 = 0 := fun e => by have := allR_of (hz e) k (by omega); omega
  have h3 : -5 ≤ xs[k]?.getD 0 ∧ -(c : Int) ≤ xs[k]?.getD 0 := by
    have := h1.1
    unfold maxI at this
    split at this <;> omega
  simp only [nzV, decide_eq_true_eq]
  exact ⟨h3.1, h1.2, h3.2, h2⟩
end

set_option maxRecDepth 100000 in
set_option maxHeartbeats 2000000 in
theorem yGood_any (A : Option Addr) (n c : Nat) (S : Nat → List Int) (w : World) (hs : IntsS w A n S) (hn : n ≤ 1099511627776) (hl : ∀ j, j < n → (S j).length ≤ 1099511627776) :
    Calls Try.prog 52 #[.agg #[.slice A n c]] w fun e w' => e = .returned (.bool (nzTab n S)) ∧ Below w.heap.size w w' := by
  have x0 := box_new w #[.slice A n c] 33
  have b0 := below_new w (.cells #[.slice A n c] 33)
  have HB := Lib.hid b0
  have HS := Lib.hid (hs.below b0)
  have HL := Lib.hid hl
  have xc := box_cell x0 0 _ rfl
  clear hs hl x0 b0
  cases hI : inR (n : Int) 1 20
  · have HR := Lib.hid (nzTab_n (S := S) (n := n) (fun h => by rw [inR_yes (by omega) (by omega)] at hI; cases hI))
    have HI := Lib.hid hI
    rw [HR.out]
    clear hI
    go_enter Try.func52, Try.ntmps52
    go_wp2_with fail
    refine (l1In_any _ _ _ _).mono ?_
    rintro e w2 ⟨rfl, rfl⟩
    rw [HI.out]
    go_wp2
    go_ret
    exact ⟨rfl, HB.out⟩
  · have hr := inR_of hI
    have HI := Lib.hid hI
    have H0 : Hid (1 ≤ n ∧ n ≤ 20) := Lib.hid ⟨by omega, by omega⟩
    clear hI
    go_enter Try.func52, Try.ntmps52
    go_wp2_with fail
    refine (l1In_any _ _ _ _).mono ?_
    rintro e w2 ⟨rfl, rfl⟩
    rw [HI.out]
    go_wp2
    generalize w.alloc (.cells #[.slice A n c] 33) = w1 at *
    clear xc
    go_loopw [13] (fun i wr => ∃ j : Nat, j ≤ n ∧ i = .int .i64 j ∧ Hid (Below w1.heap.size w1 wr) ∧ Hid (allTo (fun c => nzRow c (S c)) j = true)) (fun i _ => n - (intOf i).toNat)
    case atStart => exact ⟨0, Nat.zero_le _, rfl, Lib.hid (Below.refl _ _), Lib.hid rfl⟩
    case round =>
      obtain ⟨j, hj, rfl, HW, HA⟩ := hrel
      obtain ⟨w3, rfl⟩ : ∃ w3 : World, w3 = wr := ⟨_, rfl⟩
      have HB3 := Lib.hid (HB.out.trans (HW.out.mono HB.out.size))
      by_cases hlt : j < n
      · obtain ⟨ad, rfl, V, cv, hc, hv⟩ := (HS.out.below HW.out).at_ hlt
        have hle := HL.out j hlt
        have HV := Lib.hid hv
        clear hv
        by_cases h16 : (S j).length = 16
        · have H16 := Lib.hid h16
          have HV2 : Hid (Ints w3 V 16 (S j)) := Lib.hid (by rw [← H16.out]; exact HV.out)
          rw [h16] at hc
          clear HV hle h16
          go_wp2_with fail
          refine (l1Most_any _ _ _).mono ?_
          rintro e w4 ⟨rfl, rfl⟩
          go_wp2_with fail
          refine (l1All_any _ _ _ _ _ _ _ HV2.out (by omega)).mono ?_
          rintro e w5 ⟨rfl, rfl⟩
          cases hA : allR (S j) (maxI (-(j : Int)) (-5)) 5
          · have HR := Lib.hid (nzTab_row hlt (nzRow_g1 hA))
            clear hA
            go_wp2
            go_ret
            exact ⟨ret_bool HR.out.symm, HB3.out⟩
          · have HA1 := Lib.hid hA
            clear hA
            by_cases hz : j = 0
            · subst hz
              go_wp2_with fail
              refine (l1All_any _ _ _ _ _ _ _ HV2.out (by omega)).mono ?_
              rintro e w6 ⟨rfl, rfl⟩
              cases hZ : allR (S 0) 0 0
              · have HR := Lib.hid (nzTab_row hlt (nzRow_g2 hZ))
                clear hZ
                go_wp2
                go_ret
                exact ⟨ret_bool HR.out.symm, HB3.out⟩
              · have HA2 := Lib.hid (allTo_succ HA.out (nzRow_gy H16.out HA1.out (fun _ => hZ)))
                clear hZ
                go_wp2
                go_roundw
                case rel => exact ⟨0 + 1, by omega, by go_num, HW, HA2⟩
                case measure => simp [intOf]; omega
            · have HA2 := Lib.hid (allTo_succ HA.out (nzRow_gy H16.out HA1.out (fun h => absurd h hz)))
              have e4 : ((j : Int) == 0) = false := by rw [beq_eq_false_iff_ne]; omega
              go_wp2
              go_roundw
              case rel => exact ⟨j + 1, by omega, by go_num, HW, HA2⟩
              case measure => simp [intOf]; omega
        · have HR := Lib.hid (nzTab_row hlt (nzRow_len h16))
          have e1 : ((((S j).length : Nat) : Int) != 16) = true := by simp; omega
          clear h16
          go_wp2
          go_ret
          exact ⟨ret_bool HR.out.symm, HB3.out⟩
      · obtain rfl : j = n := by omega
        have HR := Lib.hid (nzTab_yes H0.out HA.out)
        go_wp2
        go_ret
        exact ⟨ret_bool HR.out.symm, HB3.out⟩
end
end Go.Proofs.Ytgeilnkglbcmeaa
