/- The scale, of the reference. -/
import Derived.Test.YtfkdmddfadkjoaaScale
import Derived.IntWalk
namespace Go.Proofs.Ytfkdmddfadkjoaa
open Go.RowKit

set_option maxRecDepth 100000 in
set_option maxHeartbeats 4000000 in
theorem yScale_any (p q : Int) (w : World) (h : sigmaB p q = true) :
    Calls Try.prog 141 #[.agg #[.int .i64 p, .int .i64 q]] w fun e w' => e = .returned (.int .i64 (scaleM p q : Nat)) ∧ 1 ≤ scaleM p q ∧ scaleM p q ≤ 101 ∧ Below w.heap.size w w' := by
  have hs := sigmaB_of h
  have hf := fracB_of hs.1
  have hp1 := hs.2.2
  have hq1 := hf.1
  have hq2 := hf.2.1
  have hp2 := hf.2.2.2.1
  have hp0 := hs.2.1
  have hps : sm p := sm_of hf.2.2.1 hp2
  have hqs : sm q := sm_of (by omega) hq2
  have HE : Hid (∀ t : Nat, 1 ≤ t → t ≤ 101 → p < (t : Int) * t * q → (∀ j : Nat, 1 ≤ j → j < t → (j : Int) * j * q ≤ p) → scaleM p q = t) := Lib.hid fun t a1 a2 a3 a4 => scaleM_eq a1 a2 a3 a4
  generalize scaleM p q = S at *
  clear hs hf h
  have x0 := box_new w #[.int .i64 p, .int .i64 q] 28
  have b0 := below_new w (.cells #[.int .i64 p, .int .i64 q] 28)
  go_enter Try.func141, Try.ntmps141
  go_wp2_with fail
  generalize w.alloc (.cells #[.int .i64 p, .int .i64 q] 28) = w0 at *
  go_loopw [3] (fun i wr => ∃ u : Nat, u ≤ 100 ∧ i = .int .i64 u ∧ Hid (∀ j : Nat, 1 ≤ j → j < u + 1 → (j : Int) * j * q ≤ p) ∧ wr.heap[w.heap.size]? = some (.cells #[.int .i64 p, .int .i64 q] 28 (0, 0)) ∧ Below w.heap.size w wr) (fun i _ => 101 - (intOf i).toNat)
  case atStart => exact ⟨0, by omega, rfl, Lib.hid fun j h1 h2 => absurd h1 (by omega), x0, b0⟩
  case round =>
    clear x0 b0
    obtain ⟨u, hu, rfl, hmin, x0, b0⟩ := hrel
    have c0 := box_cell x0 0 _ rfl
    have c1 := box_cell x0 1 _ rfl
    have hq := sq_bd (t := u + 1) (q := q) (by omega) hq1 hq2
    rw [Int.natCast_add, show ((1 : Nat) : Int) = 1 from rfl] at hq
    obtain ⟨s1, s2, s3, s4⟩ := hq
    have HE1 := Lib.hid (HE.out (u + 1) (by omega) (by omega))
    rw [Int.natCast_add, show ((1 : Nat) : Int) = 1 from rfl] at HE1
    have HM1 : Hid (((u : Int) + 1) * ((u : Int) + 1) * q ≤ p → ∀ j : Nat, 1 ≤ j → j < u + 1 + 1 → (j : Int) * j * q ≤ p) := Lib.hid fun hle j h1 h2 => by
      rcases Nat.lt_or_ge j (u + 1) with h9 | h9
      · exact hmin.out j h1 h9
      · obtain rfl : j = u + 1 := by omega
        rw [Int.natCast_add, show ((1 : Nat) : Int) = 1 from rfl]
        exact hle
    have hts : sm (((u : Int) + 1) * ((u : Int) + 1)) := sm_of (by omega) (by omega)
    have W1 := Lib.hid (IntWalk.i64_in ((u : Int) + 1) (by omega))
    have W2 := Lib.hid (IntWalk.i64_in (((u : Int) + 1) * ((u : Int) + 1)) (by omega))
    have hb0 := b0
    by_cases hlt : p < ((u : Int) + 1) * ((u : Int) + 1) * q
    · have E := Lib.hid (HE1.out hlt hmin.out)
      have hd : decide (((u : Int) + 1) * ((u : Int) + 1) * q - p ≤ 0) = false := decide_eq_false (by omega)
      clear hlt HE HE1 HM1 hmin
      go_wp2_with fail
      have e1 := W1.out
      have e2 := W2.out
      go_region_held3 (fun w' => w'.cell? ⟨w.heap.size, 0, none⟩ = some (.int .i64 p) ∧ w'.cell? ⟨w.heap.size, 1, none⟩ = some (.int .i64 q)) (first | exact ⟨g2, g3⟩ | exact ⟨g0, g1⟩ | go_keep) (first | (go_at_call 122; refine (fInt_any _ _).mono ?_; rintro e w2 ⟨rfl, hb2⟩; have x2 := (hb2.block w.heap.size (lt_of_block x0)).trans x0; have g0 := box_cell x2 0 _ rfl; have g1 := box_cell x2 1 _ rfl; have B2 := b0.drew.trans (hb2.mono b0.size)) | (go_at_call 140; refine (fCmp_any _ _ _ _ _ hts sm_one hps hqs).mono ?_; rintro e w3 ⟨rfl, hb3⟩; have x3 := (hb3.block w.heap.size (lt_of_block x2)).trans x2; have g2 := box_cell x3 0 _ rfl; have g3 := box_cell x3 1 _ rfl; have B3 := B2.trans (hb3.mono B2.size)))
      clear e1 e2
      go_wp2
      go_ret
      exact ⟨ret_int (by rw [E.out]; omega), by rw [E.out]; omega, by rw [E.out]; omega, B3⟩
    · have hle : ((u : Int) + 1) * ((u : Int) + 1) * q - p ≤ 0 := by omega
      have hm2 := Lib.hid (HM1.out (by omega))
      have hu2 : u < 100 := by
        rcases Nat.lt_or_ge u 100 with h9 | h9
        · exact h9
        · obtain rfl : u = 100 := by omega
          omega
      clear hlt HE1 HM1 hmin
      go_wp2_with fail
      have e1 := W1.out
      have e2 := W2.out
      go_region_held3 (fun w' => w'.cell? ⟨w.heap.size, 0, none⟩ = some (.int .i64 p) ∧ w'.cell? ⟨w.heap.size, 1, none⟩ = some (.int .i64 q)) (first | exact ⟨g2, g3⟩ | exact ⟨g0, g1⟩ | go_keep) (first | (go_at_call 122; refine (fInt_any _ _).mono ?_; rintro e w2 ⟨rfl, hb2⟩; have x2 := (hb2.block w.heap.size (lt_of_block x0)).trans x0; have g0 := box_cell x2 0 _ rfl; have g1 := box_cell x2 1 _ rfl; have B2 := b0.drew.trans (hb2.mono b0.size)) | (go_at_call 140; refine (fCmp_any _ _ _ _ _ hts sm_one hps hqs).mono ?_; rintro e w3 ⟨rfl, hb3⟩; have x3 := (hb3.block w.heap.size (lt_of_block x2)).trans x2; have g2 := box_cell x3 0 _ rfl; have g3 := box_cell x3 1 _ rfl; have B3 := B2.trans (hb3.mono B2.size)))
      clear e1 e2
      go_wp2
      go_roundw
      case rel => exact ⟨u + 1, by omega, by go_num, hm2, x3, B3⟩
      case measure => simp [intOf]; omega
end Go.Proofs.Ytfkdmddfadkjoaa
