/- PickOf, of the reference and of the program. -/
import Derived.Test.YtgfihfmlofgopaaZn
namespace Go.Proofs.Ytgfihfmlofgopaa
open Go.RowKit

theorem sum_take_succ (xs : List Int) (k : Nat) (h : k < xs.length) : (xs.take (k + 1)).sum = (xs.take k).sum + xs[k]?.getD 0 := by
  rw [List.take_succ_eq_append_getElem h, List.sum_append, List.getElem?_eq_getElem h]
  simp
theorem sum_take_bd {xs : List Int} (h : allR xs 0 1000000 = true) (k : Nat) (hk : k ≤ xs.length) : 0 ≤ (xs.take k).sum ∧ (xs.take k).sum ≤ 1000000 * (k : Int) := by
  induction k with
  | zero => simp
  | succ k ih =>
    have h1 := ih (by omega)
    have h2 := allR_of h k (by omega)
    rw [sum_take_succ xs k (by omega)]
    omega
/-- The first index at which the sum of the weights up to it is greater than v. -/
def pickI : List Int → Int → Nat
  | [], _ => 0
  | x :: xs, v => if v < x then 0 else 1 + pickI xs (v - x)
theorem pickI_go {xs : List Int} {v : Int} {k : Nat} (hk : k < xs.length) (h : ∀ j, j < k → (xs.take (j + 1)).sum ≤ v) (hv : v < (xs.take (k + 1)).sum) : pickI xs v = k := by
  induction xs generalizing v k with
  | nil => simp at hk
  | cons x xs ih =>
    cases k with
    | zero =>
      simp at hv
      simp only [pickI]; rw [if_pos hv]
    | succ k =>
      have h0 := h 0 (by omega)
      simp at h0
      simp only [pickI]; rw [if_neg (by omega)]
      have := ih (v := v - x) (k := k) (by simpa using hk) (fun j hj => by have := h (j + 1) (by omega); simp at this; omega) (by simp at hv; omega)
      omega
/-- PickOf's answer. -/
def pickB (s a : Int) (ws : List Int) : Bool := streamB s a && (inR (ws.length : Int) 1 60 && (allR ws 0 1000000 && (ws.sum != 0)))
def pickR (s a : Int) (ws : List Int) : Option (Int × Int) := if pickB s a ws = true then (belowM s ws.sum a).map fun p => ((pickI ws p.1 : Nat), p.2) else none
theorem pickR_no {s a : Int} {ws : List Int} (h : pickB s a ws = false) : pickR s a ws = none := by unfold pickR; rw [if_neg (by simp [h])]
theorem pickR_none {s a : Int} {ws : List Int} (h : pickB s a ws = true) (h2 : belowM s ws.sum a = none) : pickR s a ws = none := by unfold pickR; rw [if_pos h, h2]; rfl
theorem pickR_some {s a v a' : Int} {ws : List Int} (h : pickB s a ws = true) (h2 : belowM s ws.sum a = some (v, a')) : pickR s a ws = some (((pickI ws v : Nat) : Int), a') := by unfold pickR; rw [if_pos h, h2]; rfl
theorem pickB_1 {s a : Int} {ws : List Int} (h : streamB s a = false) : pickB s a ws = false := by simp [pickB, h]
theorem pickB_2 {s a : Int} {ws : List Int} {n : Nat} (hl : ws.length = n) (h : inR (n : Int) 1 60 = false) : pickB s a ws = false := by subst hl; simp [pickB, h]
theorem pickB_3 {s a : Int} {ws : List Int} (h : allR ws 0 1000000 = false) : pickB s a ws = false := by simp [pickB, h]
theorem pickB_4 {s a : Int} {ws : List Int} (h : ws.sum = 0) : pickB s a ws = false := by simp [pickB, h]
theorem pickB_5 {s a : Int} {ws : List Int} {n : Nat} (hl : ws.length = n) (h1 : streamB s a = true) (h2 : inR (n : Int) 1 60 = true) (h3 : allR ws 0 1000000 = true) (h4 : ¬ ws.sum = 0) : pickB s a ws = true := by subst hl; simp [pickB, h1, h2, h3, h4]

set_option maxHeartbeats 400000 in
theorem kSum_any (A : Option Addr) (n c : Nat) (xs : List Int) (w : World) (hx : Ints w A n xs) (hn : n ≤ 60) (ha : allR xs 0 1000000 = true) :
    Calls Try.prog 45 #[.slice A n c] w fun e w' => e = .returned (.int .i64 xs.sum) ∧ w = w' := by
  have hl := Lib.hid hx.1
  have HS : Hid (∀ k, k < n → (xs.take (k + 1)).sum = (xs.take k).sum + xs[k]?.getD 0) := Lib.hid fun k hk => sum_take_succ xs k (by rw [hl.out]; exact hk)
  have HB : Hid (∀ k, k ≤ n → 0 ≤ (xs.take k).sum ∧ (xs.take k).sum ≤ 1000000 * (k : Int)) := Lib.hid fun k hk => sum_take_bd ha k (by rw [hl.out]; exact hk)
  have HA : Hid (∀ k, k < n → 0 ≤ xs[k]?.getD 0 ∧ xs[k]?.getD 0 ≤ 1000000) := Lib.hid fun k hk => allR_of ha k (by rw [hl.out]; exact hk)
  clear ha
  go_enter Try.func45, Try.ntmps45
  go_wp2
  go_loop [3, 8] (fun v i => ∃ k : Nat, k ≤ n ∧ i = .int .i64 k ∧ v = .int .i64 (xs.take k).sum) (fun _ i => n - (intOf i).toNat)
  case atStart => exact ⟨0, Nat.zero_le _, rfl, by simp⟩
  case round =>
    obtain ⟨k, hk, rfl, rfl⟩ := hrel
    have hb := HB.out k hk
    by_cases hlt : k < n
    · obtain ⟨ad, rfl, hc⟩ := hx.at_ hlt
      have hs := Lib.hid (HS.out k hlt)
      have hxb := HA.out k hlt
      clear hx
      obtain ⟨x, hxe⟩ : ∃ x, xs[k]?.getD 0 = x := ⟨_, rfl⟩
      rw [hxe] at hc hs hxb
      clear hxe
      obtain ⟨y, hye⟩ : ∃ y, (xs.take k).sum = y := ⟨_, rfl⟩
      rw [hye] at hs hb
      rw [hye]
      clear hye
      go_wp2
      go_round
      case rel => exact ⟨k + 1, by omega, by go_num, by rw [hs.out]⟩
      case measure => simp [intOf]; omega
    · obtain rfl : n = k := by omega
      have E := Lib.hid (show (xs.take n).sum = xs.sum by rw [List.take_of_length_le (by rw [hl.out]; exact Nat.le_refl _)])
      clear hx
      go_wp2
      go_ret
      exact ⟨ret_int E.out, rfl⟩

set_option maxHeartbeats 400000 in
theorem total_any (A : Option Addr) (n c : Nat) (xs : List Int) (w : World) (hx : Ints w A n xs) (hn : n ≤ 60) (ha : allR xs 0 1000000 = true) :
    Calls Try.prog 41 #[.slice A n c] w fun e w' => e = .returned (.int .i64 xs.sum) ∧ w = w' := by
  have hl := Lib.hid hx.1
  have HS : Hid (∀ k, k < n → (xs.take (k + 1)).sum = (xs.take k).sum + xs[k]?.getD 0) := Lib.hid fun k hk => sum_take_succ xs k (by rw [hl.out]; exact hk)
  have HB : Hid (∀ k, k ≤ n → 0 ≤ (xs.take k).sum ∧ (xs.take k).sum ≤ 1000000 * (k : Int)) := Lib.hid fun k hk => sum_take_bd ha k (by rw [hl.out]; exact hk)
  have HA : Hid (∀ k, k < n → 0 ≤ xs[k]?.getD 0 ∧ xs[k]?.getD 0 ≤ 1000000) := Lib.hid fun k hk => allR_of ha k (by rw [hl.out]; exact hk)
  clear ha
  go_enter Try.func41, Try.ntmps41
  go_wp2
  go_loop [3, 8] (fun v i => ∃ k : Nat, k ≤ n ∧ i = .int .i64 k ∧ v = .int .i64 (xs.take k).sum) (fun _ i => n - (intOf i).toNat)
  case atStart => exact ⟨0, Nat.zero_le _, rfl, by simp⟩
  case round =>
    obtain ⟨k, hk, rfl, rfl⟩ := hrel
    have hb := HB.out k hk
    by_cases hlt : k < n
    · obtain ⟨ad, rfl, hc⟩ := hx.at_ hlt
      have hs := Lib.hid (HS.out k hlt)
      have hxb := HA.out k hlt
      clear hx
      obtain ⟨x, hxe⟩ : ∃ x, xs[k]?.getD 0 = x := ⟨_, rfl⟩
      rw [hxe] at hc hs hxb
      clear hxe
      obtain ⟨y, hye⟩ : ∃ y, (xs.take k).sum = y := ⟨_, rfl⟩
      rw [hye] at hs hb
      rw [hye]
      clear hye
      go_wp2
      go_round
      case rel => exact ⟨k + 1, by omega, by go_num, by rw [hs.out]⟩
      case measure => simp [intOf]; omega
    · obtain rfl : n = k := by omega
      have E := Lib.hid (show (xs.take n).sum = xs.sum by rw [List.take_of_length_le (by rw [hl.out]; exact Nat.le_refl _)])
      clear hx
      go_wp2
      go_ret
      exact ⟨ret_int E.out, rfl⟩

set_option maxRecDepth 100000 in
set_option maxHeartbeats 2000000 in
theorem implPickOf_law (s a : Int) (A : Option Addr) (n c : Nat) (xs : List Int) (w : World) (hx : Ints w A n xs) (_hn : n ≤ 1099511627776) :
    Calls Try.prog 12 #[.agg #[.int .i64 s, .int .i64 a], .slice A n c] w fun e w' => e = .returned (.tuple #[.int .i64 (oV (pickR s a xs)), .agg #[.int .i64 (oS s (pickR s a xs)), .int .i64 (oA (pickR s a xs))], .bool (oB (pickR s a xs))]) ∧ Below w.heap.size w w' := by
  have hl := Lib.hid hx.1
  obtain ⟨b0, x2, x5⟩ := box_two w #[.int .i64 s, .int .i64 a] #[.int .i64 0, .int .i64 0] 25 25
  go_enter Try.func12, Try.ntmps12
  go_wp2_with fail
  generalize (w.alloc (.cells #[.int .i64 s, .int .i64 a] 25)).alloc (.cells #[.int .i64 0, .int .i64 0] 25) = w0 at *
  refine (implIsStream_any _ _ _).mono ?_
  rintro e w1 ⟨rfl, b1⟩
  replace x2 := box_below x2 b1
  replace x5 := box_below x5 b1
  replace b1 := b0.trans (b1.mono b0.size)
  clear b0
  have c0 := box_cell x2 0 _ rfl
  have c1 := box_cell x2 1 _ rfl
  have d0 := box_cell x5 0 _ rfl
  have d1 := box_cell x5 1 _ rfl
  have f0 := box_free x5 0
  have f1 := box_free x5 1
  have h5 := lt_of_block x5
  have hs1 := b1.size
  have hx0 := hx
  replace hx := hx.below b1
  cases hB : streamB s a
  · have R := Lib.hid (pickR_no (pickB_1 (ws := xs) hB))
    clear hB hx
    have y5 := store_two x5 (.int .i64 0) (.int .i64 0)
    have e0 := box_cell y5 0 _ rfl
    have e1 := box_cell y5 1 _ rfl
    go_wp2
    refine bodyPost_ret (v := .tuple #[.int .i64 0, .agg #[.int .i64 0, .int .i64 0], .bool false]) (by simp [results, Try.results12, go_sem, e0, e1]) rfl ⟨trip_no R.out, below_two b1 (by omega)⟩
  · by_cases hn : 1 ≤ n ∧ n ≤ 60
    · have ha := streamB_of hB
      have hN : inR (n : Int) 1 60 = true := inR_yes (by omega) (by omega)
      have P3 := Lib.hid (fun h => pickR_no (pickB_3 (s := s) (a := a) (ws := xs) h))
      have P4 := Lib.hid (fun h => pickR_no (pickB_4 (s := s) (a := a) (ws := xs) h))
      have P5 := Lib.hid (pickB_5 (ws := xs) hl.out hB hN)
      clear hB hN
      go_wp2
      go_loop [29] (fun t => ∃ k : Nat, k ≤ n ∧ t = .int .i64 k ∧ Hid (allR (xs.take k) 0 1000000 = true)) (fun t => n - (intOf t).toNat)
      case atStart => exact ⟨0, Nat.zero_le _, rfl, Lib.hid rfl⟩
      case round =>
        obtain ⟨k, hk, rfl, hall⟩ := hrel
        by_cases hlt : k < n
        · obtain ⟨ad, rfl, hc⟩ := hx.at_ hlt
          clear hx
          have R1 := Lib.hid (allR_succ (lo := 0) (hi := 1000000) (k := k) (xs := xs) (by rw [hl.out]; exact hlt) hall.out)
          have R2 := Lib.hid (allR_no (lo := 0) (hi := 1000000) (k := k) (xs := xs) (by rw [hl.out]; exact hlt))
          obtain ⟨x, hxe⟩ : ∃ x, xs[k]?.getD 0 = x := ⟨_, rfl⟩
          rw [hxe] at hc R1 R2
          clear hxe
          by_cases hin : 0 ≤ x ∧ x ≤ 1000000
          · have R := Lib.hid (R1.out (inR_yes hin.1 hin.2))
            have hi1 := hin.1
            have hi2 := hin.2
            have hd : decide (x < 0) = false := decide_eq_false (by omega)
            clear R1 R2 hin
            go_wp2
            go_round
            case rel => exact ⟨k + 1, by omega, by go_num, R⟩
            case measure => simp [intOf]; omega
          · have R := Lib.hid (P3.out (R2.out (inR_no hin)))
            have y5 := store_two x5 (.int .i64 0) (.int .i64 0)
            have e0 := box_cell y5 0 _ rfl
            have e1 := box_cell y5 1 _ rfl
            clear R1 R2
            by_cases h1 : x < 0
            · go_wp2
              refine bodyPost_ret (v := .tuple #[.int .i64 0, .agg #[.int .i64 0, .int .i64 0], .bool false]) (by simp [results, Try.results12, go_sem, e0, e1]) rfl ⟨trip_no R.out, below_two b1 (by omega)⟩
            · have h2 : 1000000 < x := by omega
              go_wp2
              refine bodyPost_ret (v := .tuple #[.int .i64 0, .agg #[.int .i64 0, .int .i64 0], .bool false]) (by simp [results, Try.results12, go_sem, e0, e1]) rfl ⟨trip_no R.out, below_two b1 (by omega)⟩
        · obtain rfl : n = k := by omega
          have hA : allR xs 0 1000000 = true := by have := hall.out; rwa [List.take_of_length_le (by rw [hl.out]; exact Nat.le_refl _)] at this
          have HA := Lib.hid hA
          have hsb := sum_take_bd hA n (by rw [hl.out]; exact Nat.le_refl _)
          rw [List.take_of_length_le (by rw [hl.out]; exact Nat.le_refl _)] at hsb
          clear hA hall
          go_wp2_with fail
          refine (total_any _ _ _ _ _ hx (by omega) HA.out).mono ?_
          rintro e w' ⟨rfl, rfl⟩
          by_cases h0 : xs.sum = 0
          · have R := Lib.hid (P4.out h0)
            rw [h0]
            have y5 := store_two x5 (.int .i64 0) (.int .i64 0)
            have e0 := box_cell y5 0 _ rfl
            have e1 := box_cell y5 1 _ rfl
            clear h0 hsb
            go_wp2
            refine bodyPost_ret (v := .tuple #[.int .i64 0, .agg #[.int .i64 0, .int .i64 0], .bool false]) (by simp [results, Try.results12, go_sem, e0, e1]) rfl ⟨trip_no R.out, below_two b1 (by omega)⟩
          · have P := Lib.hid (P5.out HA.out h0)
            have SI : Hid (∀ v k : _, k < n → (∀ j, j < k → (xs.take (j + 1)).sum ≤ v) → v < (xs.take (k + 1)).sum → pickI xs v = k) := Lib.hid fun v k hk h1 h2 => pickI_go (by rw [hl.out]; exact hk) h1 h2
            have ST : Hid (∀ k, k < n → (xs.take (k + 1)).sum = (xs.take k).sum + xs[k]?.getD 0) := Lib.hid fun k hk => sum_take_succ xs k (by rw [hl.out]; exact hk)
            have SE := Lib.hid (show (xs.take n).sum = xs.sum by rw [List.take_of_length_le (by rw [hl.out]; exact Nat.le_refl _)])
            have SB : Hid (∀ k, k ≤ n → 0 ≤ (xs.take k).sum ∧ (xs.take k).sum ≤ 1000000 * (k : Int)) := Lib.hid fun k hk => sum_take_bd HA.out k (by rw [hl.out]; exact hk)
            have SA : Hid (∀ k, k < n → 0 ≤ xs[k]?.getD 0 ∧ xs[k]?.getD 0 ≤ 1000000) := Lib.hid fun k hk => allR_of HA.out k (by rw [hl.out]; exact hk)
            have R0 := Lib.hid (pickR_none (s := s) (a := a) P.out)
            have R1 := Lib.hid (fun v a' => pickR_some (v := v) (a' := a') (s := s) (a := a) P.out)
            clear P HA P3 P4 P5
            have hsum1 : 1 ≤ xs.sum := by omega
            have hsum2 : xs.sum ≤ 1000000000 := by omega
            clear hsb h0
            generalize hS : xs.sum = S at *
            clear hS
            have hz : ((S : Int) == 0) = false := by rw [beq_eq_false_iff_ne]; omega
            clear d0 d1 f0 f1 c0 c1
            go_wp2_with fail
            refine (below_any w.heap.size s a S _ x2 ha.1 ha.2 hsum1 hsum2).mono ?_
            rintro e w4 ⟨hyes, hno, hc⟩
            replace x5 := box_chg x5 hc (.inr (by omega))
            have b4 := hc.below b1 (by omega) b1.size
            have hx4 := hx0.below b4
            have d0 := box_cell x5 0 _ rfl
            have d1 := box_cell x5 1 _ rfl
            have f0 := box_free x5 0
            have f1 := box_free x5 1
            clear b1 hc x2 hx hx0
            cases hM : belowM s S a with
            | none =>
              obtain ⟨z, a2, rfl, hr2⟩ := hno hM
              have R := Lib.hid (R0.out hM)
              have y5 := store_two x5 (.int .i64 0) (.int .i64 0)
              have e0 := box_cell y5 0 _ rfl
              have e1 := box_cell y5 1 _ rfl
              clear hyes hno hM hx4
              go_wp2
              refine bodyPost_ret (v := .tuple #[.int .i64 0, .agg #[.int .i64 0, .int .i64 0], .bool false]) (by simp [results, Try.results12, go_sem, e0, e1]) rfl ⟨trip_no R.out, below_two b4 (by omega)⟩
            | some p =>
              obtain ⟨v, a2⟩ := p
              obtain ⟨rfl, hr2⟩ := hyes v a2 hM
              have R := Lib.hid (R1.out v a2 hM)
              have hv := belowM_bd hM ha.1 ha.2
              have hv0 := hv.1
              have hv1 := hv.2.1
              have c0 := box_cell hr2 0 _ rfl
              have c1 := box_cell hr2 1 _ rfl
              have EV := Lib.hid (SI.out v)
              clear hyes hno hM hv R0 R1 SI d0 d1 f0 f1
              go_wp2
              go_loop [10, 12] (fun u i => ∃ (k : Nat) (y : Int), k < n ∧ i = .int .i64 k ∧ u = .int .i64 y ∧ Hid (y = v - (xs.take k).sum) ∧ 0 ≤ y ∧ y ≤ 1000000000 ∧ Hid (∀ j, j < k → (xs.take (j + 1)).sum ≤ v)) (fun _ i => n - (intOf i).toNat)
              case atStart => exact ⟨0, v, by omega, rfl, rfl, Lib.hid (by simp), by omega, by omega, Lib.hid fun j hj => absurd hj (by omega)⟩
              case round =>
                obtain ⟨k, y, hk, rfl, rfl, hy, hy0, hy1, hall⟩ := hrel
                obtain ⟨ad, rfl, hcc⟩ := hx4.at_ hk
                have hxb := SA.out k hk
                have hst := Lib.hid (ST.out k hk)
                obtain ⟨x, hxe⟩ : ∃ x, xs[k]?.getD 0 = x := ⟨_, rfl⟩
                rw [hxe] at hcc hxb hst
                clear hxe hx4
                by_cases hlt : y < x
                · have E := Lib.hid (EV.out k hk hall.out (by rw [hst.out]; have := hy.out; omega))
                  have d0 := box_cell x5 0 _ rfl
                  have d1 := box_cell x5 1 _ rfl
                  have f0 := box_free x5 0
                  have f1 := box_free x5 1
                  have y5 := store_two x5 (.int .i64 s) (.int .i64 a2)
                  have e0 := box_cell y5 0 _ rfl
                  have e1 := box_cell y5 1 _ rfl
                  clear hst
                  go_wp2
                  go_region
                  all_goals (try go_wp2)
                  all_goals refine bodyPost_ret (v := .tuple #[.int .i64 k, .agg #[.int .i64 s, .int .i64 a2], .bool true]) (by simp [results, Try.results12, go_sem, e0, e1]) rfl ⟨trip_yes (by rw [R.out, E.out]), (below_two b4 (by omega)).drew⟩
                · have hk1 : k + 1 < n := by
                    rcases Nat.lt_or_ge (k + 1) n with h9 | h9
                    · exact h9
                    · have h8 : k + 1 = n := by omega
                      have h7 := SE.out
                      rw [← h8, hst.out] at h7
                      have := hy.out
                      omega
                  have hall2 := Lib.hid (show ∀ j, j < k + 1 → (xs.take (j + 1)).sum ≤ v from fun j hj => by
                    rcases Nat.lt_or_ge j k with h9 | h9
                    · exact hall.out j h9
                    · obtain rfl : j = k := by omega
                      rw [hst.out]
                      have := hy.out
                      omega)
                  have hy2 : Hid (y - x = v - (xs.take (k + 1)).sum) := Lib.hid (by rw [hst.out]; have := hy.out; omega)
                  clear hst hall hy
                  go_wp2
                  go_round
                  case rel => exact ⟨k + 1, y - x, hk1, by go_num, rfl, hy2, by omega, by omega, hall2⟩
                  case measure => simp [intOf]; omega
    · have hN : inR (n : Int) 1 60 = false := inR_no (by omega)
      have R := Lib.hid (pickR_no (pickB_2 (s := s) (a := a) hl.out hN))
      have y5 := store_two x5 (.int .i64 0) (.int .i64 0)
      have e0 := box_cell y5 0 _ rfl
      have e1 := box_cell y5 1 _ rfl
      clear hB hN hx
      by_cases h1 : n < 1
      · go_wp2
        refine bodyPost_ret (v := .tuple #[.int .i64 0, .agg #[.int .i64 0, .int .i64 0], .bool false]) (by simp [results, Try.results12, go_sem, e0, e1]) rfl ⟨trip_no R.out, below_two b1 (by omega)⟩
      · have h2 : 60 < n := by omega
        go_wp2
        refine bodyPost_ret (v := .tuple #[.int .i64 0, .agg #[.int .i64 0, .int .i64 0], .bool false]) (by simp [results, Try.results12, go_sem, e0, e1]) rfl ⟨trip_no R.out, below_two b1 (by omega)⟩

/-- What the reader's pick leaves. -/
def PickPost (g : Nat) (s a : Int) (xs : List Int) (w : World) (e : Ending) (w' : World) : Prop :=
  ∃ (i : Int) (b : Int) (ok : Bool), e = .returned (.int .i64 i) ∧ RdrAt w' g s b ok ∧ ((ok = true ∧ ∃ v, belowM s xs.sum a = some (v, b) ∧ i = (pickI xs v : Nat)) ∨ (ok = false ∧ belowM s xs.sum a = none)) ∧ Chg g (g + 1) w w'

set_option maxRecDepth 100000 in
set_option maxHeartbeats 2000000 in
theorem kpickOf_any (g : Nat) (s a : Int) (A : Option Addr) (n c : Nat) (xs : List Int) (w : World) (h : RdrAt w g s a true) (h0 : 0 ≤ a) (h1 : a ≤ 1000000) (hx : Ints w A n xs) (hn : n ≤ 60) (hA : allR xs 0 1000000 = true) (hsum : ¬ xs.sum = 0) (hfar : ∀ k, k < n → ∀ ad, A = some ad → (ad.add k).block < g) :
    Calls Try.prog 46 #[.pointer (some ⟨g, 0, none⟩), .slice A n c] w (PickPost g s a xs w) := by
  have hl := Lib.hid hx.1
  have hsb := sum_take_bd hA n (by rw [hl.out]; exact Nat.le_refl _)
  rw [List.take_of_length_le (by rw [hl.out]; exact Nat.le_refl _)] at hsb
  have SI : Hid (∀ v k : _, k < n → (∀ j, j < k → (xs.take (j + 1)).sum ≤ v) → v < (xs.take (k + 1)).sum → pickI xs v = k) := Lib.hid fun v k hk h1 h2 => pickI_go (by rw [hl.out]; exact hk) h1 h2
  have ST : Hid (∀ k, k < n → (xs.take (k + 1)).sum = (xs.take k).sum + xs[k]?.getD 0) := Lib.hid fun k hk => sum_take_succ xs k (by rw [hl.out]; exact hk)
  have SE := Lib.hid (show (xs.take n).sum = xs.sum by rw [List.take_of_length_le (by rw [hl.out]; exact Nat.le_refl _)])
  have SA : Hid (∀ k, k < n → 0 ≤ xs[k]?.getD 0 ∧ xs[k]?.getD 0 ≤ 1000000) := Lib.hid fun k hk => allR_of hA k (by rw [hl.out]; exact hk)
  have HA := Lib.hid hA
  have HF := Lib.hid hfar
  have hsum1 : 1 ≤ xs.sum := by omega
  have hsum2 : xs.sum ≤ 1000000000 := by omega
  clear hsb hsum hA hfar
  go_enter Try.func46, Try.ntmps46
  go_wp2_with fail
  refine (kSum_any _ _ _ _ _ hx hn HA.out).mono ?_
  rintro e w' ⟨rfl, rfl⟩
  go_wp2_with fail
  refine (kbelow_any g s a xs.sum true _ h h0 h1 hsum1 hsum2).mono ?_
  rintro e w4 ⟨hyes, hno, hc⟩
  rw [if_pos rfl] at hyes hno
  have hx4 : Ints w4 A n xs := ⟨hl.out, fun hn0 => by
    obtain ⟨ad, hA, hcc⟩ := hx.2 hn0
    exact ⟨ad, hA, fun j hj => (World.cell?_of_block (hc.block _ (block_lt_of_cell (hcc j hj)) (.inl (HF.out j hj ad hA)))).trans (hcc j hj)⟩⟩
  have HV : ∃ (v b : Int) (ok : Bool), e = .returned (.int .i64 v) ∧ 0 ≤ v ∧ v < xs.sum ∧ RdrAt w4 g s b ok ∧ ((ok = true ∧ belowM s xs.sum a = some (v, b)) ∨ (ok = false ∧ belowM s xs.sum a = none)) := by
    cases hM : belowM s xs.sum a with
    | none =>
      obtain ⟨he, b, hr, _, _⟩ := hno hM
      exact ⟨0, b, false, he, by omega, by omega, hr, .inr ⟨rfl, rfl⟩⟩
    | some p =>
      obtain ⟨v, b⟩ := p
      obtain ⟨he, hr⟩ := hyes v b hM
      have hv := belowM_bd hM h0 h1
      exact ⟨v, b, true, he, hv.1, hv.2.1, hr, .inl ⟨rfl, rfl⟩⟩
  obtain ⟨v, b, ok, rfl, hv0, hv1, hr, hst⟩ := HV
  have HST := Lib.hid hst
  have EV := Lib.hid (SI.out v)
  clear hyes hno hst hx h SI
  go_wp2
  go_loop [5, 14] (fun u i => ∃ (k : Nat) (y : Int), k < n ∧ i = .int .i64 k ∧ u = .int .i64 y ∧ Hid (y = v - (xs.take k).sum) ∧ 0 ≤ y ∧ y ≤ 1000000000 ∧ Hid (∀ j, j < k → (xs.take (j + 1)).sum ≤ v)) (fun _ i => n - (intOf i).toNat)
  case atStart =>
    refine ⟨0, v, ?_, rfl, rfl, Lib.hid (by simp), by omega, by omega, Lib.hid fun j hj => absurd hj (by omega)⟩
    rcases Nat.eq_zero_or_pos n with h9 | h9
    · have := SE.out
      subst h9
      simp at this
      omega
    · exact h9
  case round =>
    obtain ⟨k, y, hk, rfl, rfl, hy, hy0, hy1, hall⟩ := hrel
    obtain ⟨ad, rfl, hcc⟩ := hx4.at_ hk
    have hxb := SA.out k hk
    have hst := Lib.hid (ST.out k hk)
    obtain ⟨x, hxe⟩ : ∃ x, xs[k]?.getD 0 = x := ⟨_, rfl⟩
    rw [hxe] at hcc hxb hst
    clear hxe hx4
    by_cases hlt : y < x
    · have E := Lib.hid (EV.out k hk hall.out (by rw [hst.out]; have := hy.out; omega))
      clear hst
      go_wp2
      go_ret
      refine ⟨(k : Int), b, ok, rfl, hr, ?_, hc⟩
      rcases HST.out with ⟨h8, h9⟩ | ⟨h8, h9⟩
      · exact .inl ⟨h8, v, h9, by rw [E.out]⟩
      · exact .inr ⟨h8, h9⟩
    · have hk1 : k + 1 < n := by
        rcases Nat.lt_or_ge (k + 1) n with h9 | h9
        · exact h9
        · have h8 : k + 1 = n := by omega
          have h7 := SE.out
          rw [← h8, hst.out] at h7
          have := hy.out
          omega
      have hall2 := Lib.hid (show ∀ j, j < k + 1 → (xs.take (j + 1)).sum ≤ v from fun j hj => by
        rcases Nat.lt_or_ge j k with h9 | h9
        · exact hall.out j h9
        · obtain rfl : j = k := by omega
          rw [hst.out]
          have := hy.out
          omega)
      have hy2 : Hid (y - x = v - (xs.take (k + 1)).sum) := Lib.hid (by rw [hst.out]; have := hy.out; omega)
      clear hst hall hy
      go_wp2
      go_round
      case rel => exact ⟨k + 1, y - x, hk1, by go_num, rfl, hy2, by omega, by omega, hall2⟩
      case measure => simp [intOf]; omega

set_option maxRecDepth 100000 in
set_option maxHeartbeats 2000000 in
theorem specPickOf_law (s a : Int) (A : Option Addr) (n c : Nat) (xs : List Int) (w : World) (hx : Ints w A n xs) (hn1 : n ≤ 1099511627776) :
    Calls Try.prog 13 #[.agg #[.int .i64 s, .int .i64 a], .slice A n c] w fun e w' => e = .returned (.tuple #[.int .i64 (oV (pickR s a xs)), .agg #[.int .i64 (oS s (pickR s a xs)), .int .i64 (oA (pickR s a xs))], .bool (oB (pickR s a xs))]) ∧ Below w.heap.size w w' := by
  have hl := Lib.hid hx.1
  obtain ⟨b0, x2, x5⟩ := box_two w #[.int .i64 s, .int .i64 a] #[.int .i64 0, .int .i64 0] 25 25
  go_enter Try.func13, Try.ntmps13
  go_wp2_with fail
  generalize (w.alloc (.cells #[.int .i64 s, .int .i64 a] 25)).alloc (.cells #[.int .i64 0, .int .i64 0] 25) = w0 at *
  refine (kGood_any _ _ _).mono ?_
  rintro e w1 ⟨rfl, b1⟩
  replace x2 := box_below x2 b1
  replace x5 := box_below x5 b1
  replace b1 := b0.trans (b1.mono b0.size)
  clear b0
  have c0 := box_cell x2 0 _ rfl
  have c1 := box_cell x2 1 _ rfl
  have d0 := box_cell x5 0 _ rfl
  have d1 := box_cell x5 1 _ rfl
  have f0 := box_free x5 0
  have f1 := box_free x5 1
  have h5 := lt_of_block x5
  have hs1 := b1.size
  have hx0 := hx
  replace hx := hx.below b1
  cases hB : streamB s a
  · have R := Lib.hid (pickR_no (pickB_1 (ws := xs) hB))
    clear hB hx
    have y5 := store_two x5 (.int .i64 0) (.int .i64 0)
    have e0 := box_cell y5 0 _ rfl
    have e1 := box_cell y5 1 _ rfl
    go_wp2
    refine bodyPost_ret (v := .tuple #[.int .i64 0, .agg #[.int .i64 0, .int .i64 0], .bool false]) (by simp [results, Try.results13, go_sem, e0, e1]) rfl ⟨trip_no R.out, below_two b1 (by omega)⟩
  · go_wp2_with fail
    refine (l1In_any _ _ _ _).mono ?_
    rintro e w2 ⟨rfl, rfl⟩
    cases hN : inR (n : Int) 1 60
    · have R := Lib.hid (pickR_no (s := s) (a := a) (pickB_2 hl.out hN))
      have y5 := store_two x5 (.int .i64 0) (.int .i64 0)
      have e0 := box_cell y5 0 _ rfl
      have e1 := box_cell y5 1 _ rfl
      clear hB hN hx
      go_wp2
      refine bodyPost_ret (v := .tuple #[.int .i64 0, .agg #[.int .i64 0, .int .i64 0], .bool false]) (by simp [results, Try.results13, go_sem, e0, e1]) rfl ⟨trip_no R.out, below_two b1 (by omega)⟩
    · have hn := inR_of hN
      have HB := Lib.hid hB
      have HN := Lib.hid hN
      have ha := streamB_of hB
      clear hB hN
      go_wp2_with fail
      refine (l1All_any _ _ _ _ _ _ _ hx hn1).mono ?_
      rintro e w2 ⟨rfl, rfl⟩
      cases hA : allR xs 0 1000000
      · have R := Lib.hid (pickR_no (s := s) (a := a) (pickB_3 hA))
        have y5 := store_two x5 (.int .i64 0) (.int .i64 0)
        have e0 := box_cell y5 0 _ rfl
        have e1 := box_cell y5 1 _ rfl
        clear hA hx
        go_wp2
        refine bodyPost_ret (v := .tuple #[.int .i64 0, .agg #[.int .i64 0, .int .i64 0], .bool false]) (by simp [results, Try.results13, go_sem, e0, e1]) rfl ⟨trip_no R.out, below_two b1 (by omega)⟩
      · have HA := Lib.hid hA
        clear hA
        go_wp2_with fail
        refine (kSum_any _ _ _ _ _ hx (by omega) HA.out).mono ?_
        rintro e w2 ⟨rfl, rfl⟩
        by_cases h0 : xs.sum = 0
        · have R := Lib.hid (pickR_no (s := s) (a := a) (pickB_4 h0))
          rw [h0]
          have y5 := store_two x5 (.int .i64 0) (.int .i64 0)
          have e0 := box_cell y5 0 _ rfl
          have e1 := box_cell y5 1 _ rfl
          clear h0 hx
          go_wp2
          refine bodyPost_ret (v := .tuple #[.int .i64 0, .agg #[.int .i64 0, .int .i64 0], .bool false]) (by simp [results, Try.results13, go_sem, e0, e1]) rfl ⟨trip_no R.out, below_two b1 (by omega)⟩
        · have P := Lib.hid (pickB_5 hl.out HB.out HN.out HA.out h0)
          have R0 := Lib.hid (pickR_none (s := s) (a := a) P.out)
          have R1 := Lib.hid (fun v a' => pickR_some (v := v) (a' := a') (s := s) (a := a) P.out)
          have H0 := Lib.hid h0
          have hz : ((xs.sum : Int) == 0) = false := by rw [beq_eq_false_iff_ne]; exact h0
          clear P h0
          go_wp2_with fail
          refine (kOpen_any _ _ _).mono ?_
          rintro e w3 ⟨g, rfl, hr, hg, b3⟩
          replace x5 := box_below x5 b3
          replace b3 := b1.trans (b3.mono b1.size)
          clear b1 c0 c1 d0 d1 f0 f1 x2 hx hz
          have hs3 := b3.size
          have hx3 := hx0.below b3
          go_wp2_with fail
          refine (kpickOf_any g s a A n c xs _ hr ha.1 ha.2 hx3 (by omega) HA.out H0.out ?_).mono ?_
          · intro k hk ad hA
            obtain ⟨ad2, hA2, hcc⟩ := hx0.at_ hk
            rw [hA] at hA2
            injection hA2 with hA2
            subst hA2
            have := block_lt_of_cell hcc
            omega
          rintro e w4 ⟨i, b, ok, rfl, hr4, hst, hc⟩
          replace x5 := box_chg x5 hc (.inl (by omega))
          have b4 := hc.below b3 (by omega) hs3
          clear hx0 hx3 b3 hc hr
          rcases hst with ⟨rfl, v, hM, rfl⟩ | ⟨rfl, hM⟩
          · have E := Lib.hid (R1.out v b hM)
            clear hM
            go_wp2_with fail
            refine (kNumber_yes _ _ _ _ _ hr4).mono ?_
            rintro e w5 ⟨rfl, b5⟩
            replace x5 := box_below x5 b5
            replace b5 := b4.trans (b5.mono b4.size)
            have d0 := box_cell x5 0 _ rfl
            have d1 := box_cell x5 1 _ rfl
            have f0 := box_free x5 0
            have f1 := box_free x5 1
            have y5 := store_two x5 (.int .i64 s) (.int .i64 b)
            have e0 := box_cell y5 0 _ rfl
            have e1 := box_cell y5 1 _ rfl
            clear hr4 b4
            go_wp2
            refine bodyPost_ret (v := .tuple #[.int .i64 (pickI xs v : Nat), .agg #[.int .i64 s, .int .i64 b], .bool true]) (by simp [results, Try.results13, go_sem, e0, e1]) rfl ⟨trip_yes E.out, below_two b5 (by omega)⟩
          · have R := Lib.hid (R0.out hM)
            clear hM
            go_wp2_with fail
            refine (kNumber_no _ _ _ _ _ hr4).mono ?_
            rintro e w5 ⟨rfl, b5⟩
            replace x5 := box_below x5 b5
            replace b5 := b4.trans (b5.mono b4.size)
            have d0 := box_cell x5 0 _ rfl
            have d1 := box_cell x5 1 _ rfl
            have f0 := box_free x5 0
            have f1 := box_free x5 1
            have y5 := store_two x5 (.int .i64 0) (.int .i64 0)
            have e0 := box_cell y5 0 _ rfl
            have e1 := box_cell y5 1 _ rfl
            clear hr4 b4
            go_wp2
            refine bodyPost_ret (v := .tuple #[.int .i64 0, .agg #[.int .i64 0, .int .i64 0], .bool false]) (by simp [results, Try.results13, go_sem, e0, e1]) rfl ⟨trip_no R.out, below_two b5 (by omega)⟩
end Go.Proofs.Ytgfihfmlofgopaa
