/- Numbers below a bound, read off a stream: the reference's reader. -/
import Derived.Test.YtfkdmddfadkjoaaBelow
namespace Go.Proofs.Ytfkdmddfadkjoaa
open Go.RowKit

theorem bit_any (g : Nat) (s a : Int) (ok : Bool) (w : World) (h : RdrAt w g s a ok) (h0 : 0 ≤ a) (h1 : a ≤ 1000000) :
    Calls Try.prog 100 #[.pointer (some ⟨g, 0, none⟩)] w (KPost (Value.int .i64) (.int .i64 0) g s (if ok = true ∧ a < 1000000 then some (bitV s a, a + 1) else none) w) := by
  cases ok
  · exact (bit_dead g s a w h).mono fun e w' ⟨he, h2, hc⟩ => he ▸ KPost.no (by simp) h2 h0 h1 hc
  · by_cases hb : a < 1000000
    · exact (bit_ok g s a w h h0 hb).mono fun e w' ⟨he, h2, hc⟩ => he ▸ KPost.yes (by simp [hb]) h2 hc
    · exact (bit_no g s a w h (by omega)).mono fun e w' ⟨he, h2, hc⟩ => he ▸ KPost.no (by simp [hb]) h2 h0 h1 hc

/-- The reader in a state of the model: alive with x read so far, or failed. -/
def KSt (w : World) (g : Nat) (s x : Int) (o : Option (Int × Int)) : Prop :=
  (∃ b, o = some (x, b) ∧ RdrAt w g s b true ∧ 0 ≤ b ∧ b ≤ 1000000) ∨ (o = none ∧ ∃ b, RdrAt w g s b false ∧ 0 ≤ b ∧ b ≤ 1000000)

set_option maxRecDepth 100000 in
set_option maxHeartbeats 2000000 in
theorem kbelow_any (g : Nat) (s a n : Int) (ok : Bool) (w : World) (h : RdrAt w g s a ok) (h0 : 0 ≤ a) (h1 : a ≤ 1000000) (hn : 1 ≤ n) (hn2 : n ≤ 1000000000) :
    Calls Try.prog 98 #[.pointer (some ⟨g, 0, none⟩), .int .i64 n] w (KPost (Value.int .i64) (.int .i64 0) g s (if ok = true then belowM s n a else none) w) := by
  have hL := lenOf_le hn hn2
  have HR := Lib.hid (show (if ok = true then belowM s n a else none) = (if ok = true then belowT s n (lenOf n) 200 a else none) from rfl)
  have HLt : Hid (∀ k, k < lenOf n → (2 : Int) ^ k < n) := Lib.hid fun k hk => lenOf_lt hn hn2 hk
  have HGe := Lib.hid (lenOf_ge hn hn2)
  have HM : Hid (∀ k b x b', 0 ≤ b → b ≤ 1000000 → numO s k (some (0, b)) = some (x, b') → 0 ≤ x ∧ x < 2 ^ k ∧ 0 ≤ b' ∧ b' ≤ 1000000) := Lib.hid fun k b x b' hb0 hb1 hk => numO_bd hk hb0 hb1
  generalize (if ok = true then belowM s n a else none) = R at *
  generalize lenOf n = L at *
  go_enter Try.func98, Try.ntmps98
  go_wp2
  go_loop [5] (fun i => ∃ k : Nat, k ≤ L ∧ i = .int .i64 k) (fun i => L - (intOf i).toNat)
  case atStart => exact ⟨0, Nat.zero_le _, rfl⟩
  case round =>
    obtain ⟨k, hk, rfl⟩ := hrel
    have hp : (2 : Int) ^ k ≤ 1073741824 := two_pow_le (m := 30) (by omega)
    have hp0 : 0 < (2 : Int) ^ k := Int.pow_pos (by omega)
    by_cases hlt : k < L
    · have h2 := HLt.out k hlt
      go_wp2
      go_round
      case rel => exact ⟨k + 1, by omega, by go_num⟩
      case measure => simp [intOf]; omega
    · obtain rfl : L = k := by omega
      have h2 := HGe.out
      have hnd : decide ((2 : Int) ^ L < n) = false := decide_eq_false (by omega)
      go_wp2
      clear hnd h2 hp hp0 hlt hk HLt HGe
      go_loopw [6] (fun i wr => ∃ (k : Nat) (b : Int) (okj : Bool), k ≤ 200 ∧ i = .int .i64 k ∧ Hid (R = (if okj = true then belowT s n L (200 - k) b else none)) ∧ RdrAt wr g s b okj ∧ 0 ≤ b ∧ b ≤ 1000000 ∧ Chg g (g + 1) w wr) (fun i _ => 200 - (intOf i).toNat)
      case atStart => exact ⟨0, a, ok, Nat.zero_le _, rfl, HR, h, h0, h1, Chg.refl _ _ _⟩
      case round =>
        clear h
        obtain ⟨k, b, okj, hk, rfl, hx, hs, hb0, hb1, hc⟩ := hrel
        by_cases hlt : k < 200
        · have hs200 : 200 - k = (199 - k) + 1 := by omega
          rw [hs200] at hx
          clear hs200
          obtain ⟨O, hO⟩ : ∃ O : Option (Int × Int), (if okj = true then some (0, b) else none) = O := ⟨_, rfl⟩
          have HO := Lib.hid hO
          clear hO
          have hkd : decide ((k : Int) < 200) = true := decide_eq_true (by omega)
          go_wp2
          clear hkd
          go_loopw [7, 8] (fun x i w2 => ∃ (j : Nat) (y : Int), j ≤ L ∧ i = .int .i64 j ∧ x = .int .i64 y ∧ 0 ≤ y ∧ y < 2 ^ j ∧ KSt w2 g s y (numO s j O) ∧ Chg g (g + 1) w w2) (fun _ i _ => L - (intOf i).toNat)
          case atStart =>
            refine ⟨0, 0, Nat.zero_le _, rfl, rfl, by omega, by omega, ?_, hc⟩
            rw [← HO.out]
            cases okj
            · exact .inr ⟨by simp [numO], b, hs, hb0, hb1⟩
            · exact .inl ⟨b, by simp [numO], hs, hb0, hb1⟩
          case round =>
            obtain ⟨j, y, hj, rfl, rfl, hy0, hy1, hst, hc2⟩ := hrel
            clear hs hc
            have hp : (2 : Int) ^ j ≤ 1073741824 := two_pow_le (m := 30) (by omega)
            have hy2 : y < 1073741824 := by omega
            have hps := Lib.hid (Int.pow_succ 2 j)
            by_cases hjl : j < L
            · clear hp
              go_wp2_with fail
              rcases hst with ⟨b2, ho, hr, hb20, hb21⟩ | ⟨ho, b2, hr, hb20, hb21⟩
              · refine (bit_any _ _ _ _ _ hr hb20 hb21).mono ?_
                rintro e w3 ⟨hyes, hno, hc3⟩
                have hc4 := hc2.trans hc3
                clear hc2 hc3 hr
                by_cases hb2 : b2 < 1000000
                · obtain ⟨rfl, hr3⟩ := hyes _ _ (if_pos ⟨rfl, hb2⟩)
                  have hv := bitV_bd s b2
                  have hst3 : KSt w3 g s (2 * y + bitV s b2) (numO s (j + 1) O) := .inl ⟨b2 + 1, numO_go ho hb2, hr3, by omega, by omega⟩
                  clear hyes hno ho
                  go_wp2
                  go_roundw
                  case rel => exact ⟨j + 1, _, by omega, by go_num, rfl, by omega, by rw [hps.out]; omega, hst3, hc4⟩
                  case measure => simp [intOf]; omega
                · obtain ⟨rfl, b3, hr3, hb30, hb31⟩ := hno (if_neg (fun h => hb2 h.2))
                  have hst3 : KSt w3 g s (2 * y + 0) (numO s (j + 1) O) := .inr ⟨numO_end ho (by omega), b3, hr3, hb30, hb31⟩
                  rw [Int.add_zero] at hst3
                  clear hyes hno ho
                  go_wp2
                  go_roundw
                  case rel => exact ⟨j + 1, _, by omega, by go_num, rfl, by omega, by rw [hps.out]; omega, hst3, hc4⟩
                  case measure => simp [intOf]; omega
              · refine (bit_any _ _ _ _ _ hr hb20 hb21).mono ?_
                rintro e w3 ⟨hyes, hno, hc3⟩
                have hc4 := hc2.trans hc3
                clear hc2 hc3 hr
                obtain ⟨rfl, b3, hr3, hb30, hb31⟩ := hno (if_neg (by simp))
                have hst3 : KSt w3 g s (2 * y + 0) (numO s (j + 1) O) := .inr ⟨numO_dead ho, b3, hr3, hb30, hb31⟩
                rw [Int.add_zero] at hst3
                clear hyes hno ho
                go_wp2
                go_roundw
                case rel => exact ⟨j + 1, _, by omega, by go_num, rfl, by omega, by rw [hps.out]; omega, hst3, hc4⟩
                case measure => simp [intOf]; omega
            · obtain rfl : L = j := by omega
              rcases hst with ⟨b2, ho, hr, hb20, hb21⟩ | ⟨ho, b2, hr, hb20, hb21⟩
              · rw [← HO.out] at ho
                have hokj : okj = true := by
                  cases okj
                  · rw [if_neg (by simp), numO_none] at ho; cases ho
                  · rfl
                subst hokj
                rw [if_pos rfl] at ho hx
                have c2 := box_cell hr 2 _ rfl
                by_cases hv : y < n
                · have E := Lib.hid (hx.out.trans (belowT_yes ho hv))
                  clear ho hy1 hp hps
                  go_wp2
                  go_ret
                  exact KPost.yes E.out hr hc2
                · have E := Lib.hid (hx.out.trans (belowT_more ho hv))
                  clear ho hy1 hp hps
                  go_wp2
                  go_roundw
                  case rel => exact ⟨k + 1, b2, true, by omega, by go_num, by rw [if_pos rfl, show 200 - (k + 1) = 199 - k by omega]; exact E, hr, hb20, hb21, hc2⟩
                  case measure => simp [intOf]; omega
              · have c2 := box_cell hr 2 _ rfl
                have E : Hid (R = none) := by
                  rw [← HO.out] at ho
                  cases okj
                  · exact hx
                  · exact Lib.hid (hx.out.trans (belowT_none ho))
                clear ho hy1 hp hps
                go_wp2
                go_ret
                exact KPost.no E.out hr hb20 hb21 hc2
        · have E : Hid (R = none) := by
            cases okj
            · exact hx
            · exact Lib.hid (by rw [hx.out, show 200 - k = 0 by omega]; rfl)
          have c2 := box_cell hs 2 _ rfl
          have f2 := box_free hs 2
          have k3 : RdrAt (wr.setCell ⟨g, 2, none⟩ (.bool false)) g s b false := box_set hs 2 _
          have K3 := Lib.hid (hc.set (g := g) (i := 2) (v := .bool false) (Nat.le_refl _) (by omega))
          go_wp2
          go_ret
          exact KPost.no E.out k3 hb0 hb1 K3.out
end Go.Proofs.Ytfkdmddfadkjoaa
