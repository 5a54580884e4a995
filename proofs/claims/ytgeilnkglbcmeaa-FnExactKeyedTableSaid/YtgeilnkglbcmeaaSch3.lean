/- Schemas: the reference's test. -/
import Derived.Test.YtgeilnkglbcmeaaSch2
namespace Go.Proofs.Ytgeilnkglbcmeaa
open Go.RowKit

def FoundV (vs : List (ByteArray × Int)) (nm : ByteArray) (n : Nat) (w : World) (e : Ending) (w' : World) : Prop :=
  ∃ r : Int, e = .returned (.int .i64 r) ∧ (freshB vs nm n = true → r < 0) ∧ (freshB vs nm n = false → 0 ≤ r) ∧ Below w.heap.size w w'

set_option maxHeartbeats 800000 in
theorem sFind_any (A : Option Addr) (n c : Nat) (vs : List (ByteArray × Int)) (nm : ByteArray) (w : World) (hx : VarsR w A n vs) (hn : n ≤ 1099511627776) :
    Calls Try.prog 125 #[.slice A n c, .string nm] w (FoundV vs nm n w) := by
  go_enter Try.func125, Try.ntmps125
  go_wp2
  go_loopw [9] (fun i wr => ∃ k : Nat, k ≤ n ∧ i = .int .i64 k ∧ Hid (∀ t, t < k → nmEq (vN vs t) nm = false) ∧ Below w.heap.size w wr) (fun i _ => n - (intOf i).toNat)
  case atStart => exact ⟨0, Nat.zero_le _, rfl, Lib.hid fun t ht => absurd ht (by omega), Below.refl _ _⟩
  case round =>
    obtain ⟨k, hk, rfl, hall, hbw⟩ := hrel
    by_cases hlt : k < n
    · obtain ⟨ad, rfl, hc, hc'⟩ := (hx.below hbw).at_ hlt
      have N0 := Lib.hid (fun (h : nmEq (vN vs k) nm = true) => (show freshB vs nm n = false from allTo_no hlt (by simp [h])))
      have M1 := Lib.hid (fun (h : nmEq (vN vs k) nm = false) => (show ∀ t, t < k + 1 → nmEq (vN vs t) nm = false from fun t ht => by
                  rcases Nat.lt_or_ge t k with h' | h'
                  · exact hall.out t h'
                  · obtain rfl : t = k := by omega
                    exact h))
      clear hx
      obtain ⟨s, hse⟩ : ∃ s, vN vs k = s := ⟨_, rfl⟩
      rw [hse] at hc N0 M1
      clear hse
      have hsz := hbw.size
      cases hE : s.toList == nm.toList
      · have R := Lib.hid (M1.out hE)
        go_wp2
        go_roundw
        case rel => exact ⟨k + 1, by omega, by go_num, R, hbw.alloc hsz _⟩
        case measure => simp [intOf]; omega
      · have R := Lib.hid (N0.out hE)
        go_wp2
        go_ret
        exact ⟨_, rfl, fun h => (by rw [R.out] at h; cases h), fun _ => by omega, hbw.alloc hsz _⟩
    · obtain rfl : k = n := by omega
      have R := Lib.hid (show freshB vs nm k = true from allTo_yes fun j hj => by simp [hall.out j hj])
      go_wp2
      go_ret
      exact ⟨_, rfl, fun _ => by omega, fun h => (by rw [R.out] at h; cases h), hbw⟩

theorem VarsR.take {w : World} {A : Option Addr} {n k : Nat} {vs : List (ByteArray × Int)} (h : VarsR w A n vs) (hk : k ≤ n) : VarsR w A k (vs.take k) := by
  have hl := h.1
  refine ⟨by rw [List.length_take]; omega, fun hp => ?_⟩
  obtain ⟨ad, e, hc⟩ := h.2 (by omega)
  refine ⟨ad, e, fun j hj => ?_⟩
  have := hc j (by omega)
  simpa only [vN, vL, List.getElem?_take, if_pos hj] using this
theorem freshB_take {vs : List (ByteArray × Int)} {nm : ByteArray} {k : Nat} : freshB (vs.take k) nm k = freshB vs nm k := by
  cases h : freshB vs nm k
  · cases h' : freshB (vs.take k) nm k
    · rfl
    · have : freshB vs nm k = true := allTo_yes fun j hj => by
        have := allTo_of h' j hj
        simpa only [vN, List.getElem?_take, if_pos hj] using this
      rw [h] at this; cases this
  · exact allTo_yes fun j hj => by
      have := allTo_of h j hj
      simpa only [vN, List.getElem?_take, if_pos hj] using this

set_option maxHeartbeats 1000000 in
theorem sGood_any (A : Option Addr) (n c : Nat) (vs : List (ByteArray × Int)) (w : World) (hx : VarsR w A n vs) (hs : ∀ j, j < n → (vN vs j).size ≤ 1099511627776) (hn : n ≤ 1099511627776) (hcap : n ≤ c) :
    Calls Try.prog 80 #[.slice A n c] w fun e w' => e = .returned (.bool (schB vs)) ∧ Below w.heap.size w w' := by
  have hl := Lib.hid hx.1
  cases hin : inR n 1 6
  · have H := Lib.hid hin
    have hno : ¬ (1 ≤ n ∧ n ≤ 6) := fun h => by rw [inR_yes (by omega) (by omega)] at hin; cases hin
    have R := Lib.hid (schB_len hl.out hno).symm
    clear hin
    go_enter Try.func80, Try.ntmps80
    go_wp2_with (go_at_call 85; refine (l1In_any _ _ _ _).mono ?_; rintro e w2 ⟨rfl, rfl⟩; rw [H.out])
    go_ret
    exact ⟨ret_bool R.out, Below.refl _ _⟩
  have H := Lib.hid hin
  have h16 := inR_of hin
  clear hin
  go_enter Try.func80, Try.ntmps80
  go_wp2_with (go_at_call 85; refine (l1In_any _ _ _ _).mono ?_; rintro e w2 ⟨rfl, rfl⟩; rw [H.out])
  go_loopw [11] (fun i wr => ∃ k : Nat, k ≤ n ∧ i = .int .i64 k ∧ Hid (∀ t, t < k → varOk vs t = true) ∧ Below w.heap.size w wr) (fun i _ => n - (intOf i).toNat)
  case atStart => exact ⟨0, Nat.zero_le _, rfl, Lib.hid fun t ht => absurd ht (by omega), Below.refl _ _⟩
  case round =>
    obtain ⟨k, hk, rfl, hall, hbw⟩ := hrel
    obtain ⟨wo, rfl⟩ : ∃ wo : World, wo = wr := ⟨_, rfl⟩
    by_cases hlt : k < n
    · have HX := Lib.hid (hx.below hbw)
      obtain ⟨ad, rfl, hc, hc'⟩ := HX.out.at_ hlt
      have hsk := hs k hlt
      have W0 := Lib.hid (fun h => schB_no hl.out hlt (varOk_word h))
      have L0 := Lib.hid (fun h => schB_no hl.out hlt (varOk_lev h))
      have N0 := Lib.hid (fun (h : freshB vs (vN vs k) k = false) => schB_no hl.out hlt (show varOk vs k = false by simp [varOk, h]))
      have Y0 := Lib.hid (fun (h1 : wordB (vN vs k) = true) (h2 : inR (vL vs k) 2 8 = true) (h3 : freshB vs (vN vs k) k = true) => (show varOk vs k = true by simp [varOk, h1, h2, h3]))
      have F0 := Lib.hid (freshB_take (vs := vs) (nm := vN vs k) (k := k))
      clear hx hs
      obtain ⟨s, hse⟩ : ∃ s, vN vs k = s := ⟨_, rfl⟩
      obtain ⟨x, hxe⟩ : ∃ x, vL vs k = x := ⟨_, rfl⟩
      rw [hse] at hc hsk W0 N0 Y0 F0
      rw [hxe] at hc' L0 Y0
      clear hse hxe
      have hb2 := hbw.alloc hbw.size (.cells #[.string s, .int .i64 x] 89)
      have X1 := Lib.hid ((HX.out.below (below_new wo (.cells #[.string s, .int .i64 x] 89))).take (k := k) (by omega))
      have C0 := box_cell (box_new wo #[.string s, .int .i64 x] 89) 0 (.string s) rfl
      have C1 := box_cell (box_new wo #[.string s, .int .i64 x] 89) 1 (.int .i64 x) rfl
      obtain ⟨bW, hW⟩ : ∃ b, wordB s = b := ⟨_, rfl⟩
      obtain ⟨bL, hL⟩ : ∃ b, inR x 2 8 = b := ⟨_, rfl⟩
      obtain ⟨bF, hF⟩ : ∃ b, freshB vs s k = b := ⟨_, rfl⟩
      have HW := Lib.hid hW
      have HL := Lib.hid hL
      have HF := Lib.hid (F0.out.trans hF)
      have HF0 := Lib.hid hF
      clear hW hL hF
      go_wp2_with fail
      clear hc hc'
      generalize wo.alloc (.cells #[.string s, .int .i64 x] 89) = w1 at *
      go_cut [34] from 16 to 35 (fun b wx => b = .bool (!(bW && (bL && bF))) ∧ Below w1.heap.size w1 wx)
      case first =>
        have B0 := (Below.refl w1.heap.size w1).drew
        cases bW
        · have c1 : ∀ W : World, Calls Try.prog 124 #[.string s] W fun e w' => e = .returned (.bool false) ∧ w' = W := fun W => (sName_any s W hsk).mono fun e w' ⟨h1, h2⟩ => ⟨by rw [h1, HW.out], h2.symm⟩
          go_quiet ((go_at_call 124; exact Calls.quiet_of_same (c1 _)))
          go_wp2_with fail
          go_meet
          exact ⟨rfl, below_drewN (Below.refl _ _) _⟩
        have c1 : ∀ W : World, Calls Try.prog 124 #[.string s] W fun e w' => e = .returned (.bool true) ∧ w' = W := fun W => (sName_any s W hsk).mono fun e w' ⟨h1, h2⟩ => ⟨by rw [h1, HW.out], h2.symm⟩
        cases bL
        · have c2 : ∀ W : World, Calls Try.prog 85 #[.int .i64 x, .int .i64 2, .int .i64 8] W fun e w' => e = .returned (.bool false) ∧ w' = W := fun W => (l1In_any x 2 8 W).mono fun e w' ⟨h1, h2⟩ => ⟨by rw [h1, HL.out], h2.symm⟩
          go_quiet ((first | (go_at_call 124; exact Calls.quiet_of_same (c1 _)) | (go_at_call 85; exact Calls.quiet_of_same (c2 _))))
          go_wp2_with fail
          go_meet
          exact ⟨rfl, below_drewN (Below.refl _ _) _⟩
        have c2 : ∀ W : World, Calls Try.prog 85 #[.int .i64 x, .int .i64 2, .int .i64 8] W fun e w' => e = .returned (.bool true) ∧ w' = W := fun W => (l1In_any x 2 8 W).mono fun e w' ⟨h1, h2⟩ => ⟨by rw [h1, HL.out], h2.symm⟩
        have B0 := (Below.refl w1.heap.size w1).drew
        have hsz := hb2.size
        have hlt1 := block_lt_of_cell C0
        have i0 : (0 : Int) ≤ (k : Int) := by omega
        have i1 : (k : Int) ≤ (n : Int) := by omega
        have i2 : (k : Int) ≤ (c : Int) := by omega
        go_region_held3 (fun w' => w'.cell? ⟨wo.heap.size, 0, none⟩ = some (.string s) ∧ w'.cell? ⟨wo.heap.size, 1, none⟩ = some (.int .i64 x)) (go_keep) (first
          | (go_at_call 124; refine (c1 _).mono ?_; rintro e w2 ⟨rfl, rfl⟩)
          | (go_at_call 85; refine (c2 _).mono ?_; rintro e w2 ⟨rfl, rfl⟩)
          | (go_at_call 125; refine (sFind_any _ k c (vs.take k) s _ (by exact X1.out) (by omega)).mono ?_; rintro e w2 ⟨r, rfl, hry, hrn, hb3⟩; have D0 := (hb3.cell (p := ⟨wo.heap.size, 0, none⟩) hlt1).trans C0; have D1 := (hb3.cell (p := ⟨wo.heap.size, 1, none⟩) hlt1).trans C1; have B1 := B0.trans (hb3.mono B0.size)))
        go_wp2_with fail
        go_meet
        cases bF
        · exact ⟨by rw [decide_eq_true (hrn HF.out)]; rfl, B1⟩
        · exact ⟨by rw [decide_eq_false (Int.not_le.2 (hry HF.out))]; rfl, B1⟩
      case rest =>
        obtain ⟨rfl, hb⟩ := hcut
        have hb3 := hb2.trans (hb.mono hb2.size)
        cases bW
        · have R := Lib.hid (W0.out HW.out).symm
          go_wp2
          go_ret
          exact ⟨ret_bool R.out, hb3⟩
        cases bL
        · have R := Lib.hid (L0.out (fun h => by have := HL.out; rw [inR_yes h.1 h.2] at this; cases this)).symm
          go_wp2
          go_ret
          exact ⟨ret_bool R.out, hb3⟩
        cases bF
        · have R := Lib.hid (N0.out HF0.out).symm
          go_wp2
          go_ret
          exact ⟨ret_bool R.out, hb3⟩
        have R := Lib.hid (Y0.out HW.out HL.out HF0.out)
        go_wp2
        go_roundw
        case rel => exact ⟨k + 1, by omega, by go_num, Lib.hid fun t ht => by
                      rcases Nat.lt_or_ge t k with h' | h'
                      · exact hall.out t h'
                      · obtain rfl : t = k := by omega
                        exact R.out, hb3⟩
        case measure => simp [intOf]; omega
    · obtain rfl : k = n := by omega
      have R := Lib.hid (schB_yes hl.out (by omega) hall.out).symm
      go_wp2
      go_ret
      exact ⟨ret_bool R.out, hbw⟩
end Go.Proofs.Ytgeilnkglbcmeaa
