/- Coins of the reference's reader. -/
import Derived.Test.YtgfihfmlofgopaaCoin
namespace Go.Proofs.Ytgfihfmlofgopaa
open Go.RowKit

set_option maxHeartbeats 2000000 in
theorem kcoin_any (g : Nat) (s a p q : Int) (ok : Bool) (w : World) (h : RdrAt w g s a ok) (h0 : 0 ≤ a) (h1 : a ≤ 1000000) (hq : 1 ≤ q) (hq2 : q ≤ 1000000000) :
    Calls Try.prog 31 #[.pointer (some ⟨g, 0, none⟩), .agg #[.int .i64 p, .int .i64 q]] w (KPost Value.bool (.bool false) g s (if ok = true then coinM s p q a else none) w) := by
  have hlt := h.lt
  have R0 : (if ok = true then belowM s q a else none) = none → (if ok = true then coinM s p q a else none) = none := by
    cases ok <;> simp only [Bool.false_eq_true, if_false, if_true, imp_self]
    exact coinM_none
  have R1 : ∀ v a', (if ok = true then belowM s q a else none) = some (v, a') → (if ok = true then coinM s p q a else none) = some (decide (v < p), a') := by
    intro v a'
    cases ok <;> simp only [Bool.false_eq_true, if_false, if_true]
    · intro h9; cases h9
    · exact coinM_some
  generalize (if ok = true then coinM s p q a else none) = R at *
  have x0 := box_new w #[.int .i64 p, .int .i64 q] 27
  have b0 := below_new w (.cells #[.int .i64 p, .int .i64 q] 27)
  have hC := (Chg.refl g (g + 1) w).alloc (.cells #[.int .i64 p, .int .i64 q] 27)
  replace h := h.below b0
  clear b0
  cases hM : (if ok = true then belowM s q a else none) with
  | none =>
    have E := Lib.hid (R0 hM)
    have HM := Lib.hid hM
    clear R0 R1 hM
    by_cases hp : 0 < p
    · go_enter Try.func31, Try.ntmps31
      go_wp2
      generalize w.alloc (.cells #[.int .i64 p, .int .i64 q] 27) = w0 at *
      have c0 := box_cell x0 0 _ rfl
      have c1 := box_cell x0 1 _ rfl
      first | (go_region_with ((go_at_call 67; refine (kbelow_any g s a q ok _ ?_ h0 h1 hq hq2).mono ?_; exact h; rintro e w2 ⟨hyes, hno, hc⟩; obtain ⟨rfl, a2, hr, ha2, ha3⟩ := hno HM.out; have x2 := box_chg (w := World.drew w0) x0 hc (.inr (by omega)); have g0 := box_cell x2 0 _ rfl; have g1 := box_cell x2 1 _ rfl; have r2 := box_cell hr 2 _ rfl; have C2 := hC.drew.trans hc))) | fail
      all_goals (go_wp2; go_ret; exact KPost.no E.out hr ha2 ha3 C2)
    · have hd : decide (0 < p) = false := decide_eq_false hp
      go_enter Try.func31, Try.ntmps31
      go_wp2
      generalize w.alloc (.cells #[.int .i64 p, .int .i64 q] 27) = w0 at *
      have c0 := box_cell x0 0 _ rfl
      have c1 := box_cell x0 1 _ rfl
      first | (go_region_with ((go_at_call 67; refine (kbelow_any g s a q ok _ ?_ h0 h1 hq hq2).mono ?_; exact h; rintro e w2 ⟨hyes, hno, hc⟩; obtain ⟨rfl, a2, hr, ha2, ha3⟩ := hno HM.out; have x2 := box_chg (w := World.drew w0) x0 hc (.inr (by omega)); have g0 := box_cell x2 0 _ rfl; have g1 := box_cell x2 1 _ rfl; have r2 := box_cell hr 2 _ rfl; have C2 := hC.drew.trans hc))) | fail
      all_goals (go_wp2; go_ret; exact KPost.no E.out hr ha2 ha3 C2)
  | some r =>
    obtain ⟨v, a2⟩ := r
    have E := Lib.hid (R1 v a2 hM)
    have HM := Lib.hid hM
    clear R0 R1 hM
    by_cases hp : v < p
    · rw [decide_eq_true hp] at E
      go_enter Try.func31, Try.ntmps31
      go_wp2
      generalize w.alloc (.cells #[.int .i64 p, .int .i64 q] 27) = w0 at *
      have c0 := box_cell x0 0 _ rfl
      have c1 := box_cell x0 1 _ rfl
      first | (go_region_with ((go_at_call 67; refine (kbelow_any g s a q ok _ ?_ h0 h1 hq hq2).mono ?_; exact h; rintro e w2 ⟨hyes, hno, hc⟩; obtain ⟨rfl, hr⟩ := hyes v a2 HM.out; have x2 := box_chg (w := World.drew w0) x0 hc (.inr (by omega)); have g0 := box_cell x2 0 _ rfl; have g1 := box_cell x2 1 _ rfl; have r2 := box_cell hr 2 _ rfl; have C2 := hC.drew.trans hc))) | fail
      all_goals (go_wp2; go_ret; exact KPost.yes E.out hr C2)
    · have hd : decide (v < p) = false := decide_eq_false hp
      rw [hd] at E
      go_enter Try.func31, Try.ntmps31
      go_wp2
      generalize w.alloc (.cells #[.int .i64 p, .int .i64 q] 27) = w0 at *
      have c0 := box_cell x0 0 _ rfl
      have c1 := box_cell x0 1 _ rfl
      first | (go_region_with ((go_at_call 67; refine (kbelow_any g s a q ok _ ?_ h0 h1 hq hq2).mono ?_; exact h; rintro e w2 ⟨hyes, hno, hc⟩; obtain ⟨rfl, hr⟩ := hyes v a2 HM.out; have x2 := box_chg (w := World.drew w0) x0 hc (.inr (by omega)); have g0 := box_cell x2 0 _ rfl; have g1 := box_cell x2 1 _ rfl; have r2 := box_cell hr 2 _ rfl; have C2 := hC.drew.trans hc))) | fail
      all_goals (go_wp2; go_ret; exact KPost.yes E.out hr C2)

set_option maxHeartbeats 400000 in
theorem kTruth_yes (g : Nat) (s a : Int) (b : Bool) (w : World) (h : RdrAt w g s a true) :
    Calls Try.prog 32 #[.bool b, .pointer (some ⟨g, 0, none⟩)] w fun e w' => e = .returned (.tuple #[.bool b, .agg #[.int .i64 s, .int .i64 a], .bool true]) ∧ Below w.heap.size w w' := by
  have hr := h.below (below_new w (.cells #[.int .i64 0, .int .i64 0] 25))
  have c0 := box_cell hr 0 _ rfl
  have c1 := box_cell hr 1 _ rfl
  have c2 := box_cell hr 2 _ rfl
  go_enter Try.func32, Try.ntmps32
  go_wp2
  go_region
  all_goals (try go_wp2)
  all_goals refine bodyPost_ret (v := .tuple #[.bool b, .agg #[.int .i64 s, .int .i64 a], .bool true]) (by simp [results, Try.results32, go_sem]) rfl ⟨rfl, ?_⟩
  all_goals first | exact below_new _ _ | exact (below_new _ _).drew | exact below_drewN (below_new _ _) _

set_option maxHeartbeats 400000 in
theorem kTruth_no (g : Nat) (s a : Int) (b : Bool) (w : World) (h : RdrAt w g s a false) :
    Calls Try.prog 32 #[.bool b, .pointer (some ⟨g, 0, none⟩)] w fun e w' => e = .returned (.tuple #[.bool false, .agg #[.int .i64 0, .int .i64 0], .bool false]) ∧ Below w.heap.size w w' := by
  have hr := h.below (below_new w (.cells #[.int .i64 0, .int .i64 0] 25))
  have c2 := box_cell hr 2 _ rfl
  go_enter Try.func32, Try.ntmps32
  go_wp2
  refine bodyPost_ret (v := .tuple #[.bool false, .agg #[.int .i64 0, .int .i64 0], .bool false]) (by simp [results, Try.results32, go_sem]) rfl ⟨rfl, ?_⟩
  exact below_new _ _
end Go.Proofs.Ytgfihfmlofgopaa
