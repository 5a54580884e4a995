/- Noise tables: a row, and an element. -/
import Derived.Test.YtgeilnkglbcmeaaTab
namespace Go.Proofs.Ytgeilnkglbcmeaa
open Go.RowKit

/-- The element for a count and a key. -/
def nzAt (n : Nat) (S : Nat → List Int) (x y : Nat) : Int := (S (min x (n - 1)))[y / 4096]?.getD 0

set_option maxHeartbeats 1000000 in
theorem rowFor_any (A : Option Addr) (n c x : Nat) (S : Nat → List Int) (w : World) (hs : IntsS w A n S) (h1 : 1 ≤ n) (h20 : n ≤ 20) (hl : ∀ j, j < n → (S j).length = 16) (hx : x ≤ 1000000) :
    Calls Try.prog 84 #[.agg #[.slice A n c], .int .i64 x] w fun e w' => ∃ V cv, e = .returned (.slice V 16 cv) ∧ Ints w' V 16 (S (min x (n - 1))) ∧ Below w.heap.size w w' := by
  have x0 := box_new w #[.slice A n c] 33
  have b0 := below_new w (.cells #[.slice A n c] 33)
  have xc := box_cell x0 0 _ rfl
  obtain ⟨ad, rfl, V, cv, hc, hv⟩ := (hs.below b0).at_ (k := min x (n - 1)) (by omega)
  have hk : min x (n - 1) < n := by omega
  rw [hl _ hk] at hc hv
  have HV := Lib.hid hv
  have HB := Lib.hid b0
  by_cases hxn : x ≤ n - 1
  · have hi : (x : Int) ≤ (n : Int) - 1 := by omega
    rw [show min x (n - 1) = x by omega] at hc
    clear hs hl hv b0 x0 hk hxn
    go_enter Try.func84, Try.ntmps84
    go_wp2
    go_ret
    exact ⟨V, cv, rfl, HV.out, HB.out⟩
  · have hi : ¬ (x : Int) ≤ (n : Int) - 1 := by omega
    rw [show min x (n - 1) = n - 1 by omega] at hc
    clear hs hl hv b0 x0 hk hxn
    go_enter Try.func84, Try.ntmps84
    go_wp2
    go_ret
    exact ⟨V, ⟨cv, rfl⟩, HV.out, HB.out⟩

theorem l1Least_any (a b : Int) (w : World) :
    Calls Try.prog 87 #[.int .i64 a, .int .i64 b] w fun e w' => e = .returned (.int .i64 (min a b)) ∧ w = w' := by
  by_cases h : a < b
  · have e : min a b = a := by omega
    rw [e]
    have hd : decide (a < b) = true := by simp [h]
    clear e
    go_enter Try.func87, Try.ntmps87
    go_wp2
    go_ret
    exact ⟨rfl, rfl⟩
  · have e : min a b = b := by omega
    rw [e]
    have hd : decide (a < b) = false := by simp [h]
    clear e
    go_enter Try.func87, Try.ntmps87
    go_wp2
    go_ret
    exact ⟨rfl, rfl⟩

set_option maxHeartbeats 1000000 in
theorem yRow_any (A : Option Addr) (n c x : Nat) (S : Nat → List Int) (w : World) (hs : IntsS w A n S) (h1 : 1 ≤ n) (h20 : n ≤ 20) (hl : ∀ j, j < n → (S j).length = 16) (_hx : x ≤ 1000000) :
    Calls Try.prog 89 #[.agg #[.slice A n c], .int .i64 x] w fun e w' => ∃ V cv, e = .returned (.slice V 16 cv) ∧ Ints w' V 16 (S (min x (n - 1))) ∧ Below w.heap.size w w' := by
  have x0 := box_new w #[.slice A n c] 33
  have b0 := below_new w (.cells #[.slice A n c] 33)
  have xc := box_cell x0 0 _ rfl
  obtain ⟨ad, rfl, V, cv, hc, hv⟩ := (hs.below b0).at_ (k := min x (n - 1)) (by omega)
  have hm : min (x : Int) ((n : Int) - 1) = ((min x (n - 1) : Nat) : Int) := by
    rcases Nat.le_total x (n - 1) with h | h
    · rw [Nat.min_eq_left h]; omega
    · rw [Nat.min_eq_right h]; omega
  have hk : min x (n - 1) < n := by omega
  rw [hl _ hk] at hc hv
  have HV := Lib.hid hv
  have HB := Lib.hid b0
  have HM := Lib.hid hm
  have hw : IntKind.i64.wrap ((n : Int) - 1) = (n : Int) - 1 := IntWalk.i64_in _ (by omega)
  clear hs hl hv b0 x0 hm
  generalize min x (n - 1) = k at *
  go_enter Try.func89, Try.ntmps89
  go_wp2
  generalize w.alloc (.cells #[.slice (some ad) n c] 33) = w1 at *
  go_region_held3 (fun w' => w'.cell? ⟨w.heap.size, 0, none⟩ = some (.slice (some ad) n c) ∧ w'.cell? (ad.add k) = some (.slice V 16 cv)) (first | exact ⟨xc, hc⟩ | go_keep) ((go_at_call 87; refine (l1Least_any _ _ _).mono ?_; rintro e w9 ⟨rfl, rfl⟩; rw [HM.out]))
  all_goals (go_wp2; go_ret; exact ⟨V, cv, rfl, HV.out, HB.out.drew⟩)

set_option maxHeartbeats 1000000 in
theorem noiseOf_any (A : Option Addr) (n c x y : Nat) (S : Nat → List Int) (w : World) (hs : IntsS w A n S) (h1 : 1 ≤ n) (h20 : n ≤ 20) (hl : ∀ j, j < n → (S j).length = 16) (hx : x ≤ 1000000) (hy : y < 65536) :
    Calls Try.prog 91 #[.agg #[.slice A n c], .int .i64 x, .int .i64 y] w fun e w' => e = .returned (.int .i64 (nzAt n S x y)) ∧ Below w.heap.size w w' := by
  have x0 := box_new w #[.slice A n c] 33
  have b0 := below_new w (.cells #[.slice A n c] 33)
  have xc := box_cell x0 0 _ rfl
  have HS := Lib.hid (hs.below b0)
  have HB := Lib.hid b0
  have HL := Lib.hid hl
  have hz : nzAt n S x y = (S (min x (n - 1)))[y / 4096]?.getD 0 := rfl
  have HZ := Lib.hid hz
  rw [HZ.out]
  clear hs hl b0 x0 hz
  go_enter Try.func91, Try.ntmps91
  go_wp2_with fail
  refine (rowFor_any _ n c x S _ HS.out h1 h20 HL.out hx).mono ?_
  rintro e w2 ⟨V, cv, rfl, hv, b1⟩
  obtain ⟨av, rfl, hcv⟩ := hv.at_ (k := y / 4096) (by omega)
  have hy2 : y / 4096 < 16 := by omega
  have htd : (y : Int).tdiv 4096 = ((y / 4096 : Nat) : Int) := by rw [Int.tdiv_eq_ediv_of_nonneg (by omega)]; rfl
  have B2 := Lib.hid (HB.out.trans (b1.mono HB.out.size))
  clear xc b1 hv
  go_wp2
  go_ret
  exact ⟨rfl, B2.out⟩

set_option maxHeartbeats 1000000 in
theorem yNoise_any (A : Option Addr) (n c x y : Nat) (S : Nat → List Int) (w : World) (hs : IntsS w A n S) (h1 : 1 ≤ n) (h20 : n ≤ 20) (hl : ∀ j, j < n → (S j).length = 16) (hx : x ≤ 1000000) (hy : y < 65536) :
    Calls Try.prog 107 #[.agg #[.slice A n c], .int .i64 x, .int .i64 y] w fun e w' => e = .returned (.int .i64 (nzAt n S x y)) ∧ Below w.heap.size w w' := by
  have x0 := box_new w #[.slice A n c] 33
  have b0 := below_new w (.cells #[.slice A n c] 33)
  have xc := box_cell x0 0 _ rfl
  have HS := Lib.hid (hs.below b0)
  have HB := Lib.hid b0
  have HL := Lib.hid hl
  have hz : nzAt n S x y = (S (min x (n - 1)))[y / 4096]?.getD 0 := rfl
  have HZ := Lib.hid hz
  rw [HZ.out]
  clear hs hl b0 x0 hz
  go_enter Try.func107, Try.ntmps107
  go_wp2_with fail
  refine (yRow_any _ n c x S _ HS.out h1 h20 HL.out hx).mono ?_
  rintro e w2 ⟨V, cv, rfl, hv, b1⟩
  obtain ⟨av, rfl, hcv⟩ := hv.at_ (k := y / 4096) (by omega)
  have hy2 : y / 4096 < 16 := by omega
  have htd : (y : Int).tdiv 4096 = ((y / 4096 : Nat) : Int) := by rw [Int.tdiv_eq_ediv_of_nonneg (by omega)]; rfl
  have B2 := Lib.hid (HB.out.trans (b1.mono HB.out.size))
  clear xc b1 hv
  go_wp2
  go_ret
  exact ⟨rfl, B2.out⟩
end Go.Proofs.Ytgeilnkglbcmeaa
