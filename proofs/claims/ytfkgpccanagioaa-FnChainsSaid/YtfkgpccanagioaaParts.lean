/- SealParts and FirstBadPart, of the reference and of the program. -/
import Derived.Test.YtfkgpccanagioaaChain
namespace Go.Proofs.Ytfkgpccanagioaa
open Go.RowKit

/-- There are valid parts and as many nonces. -/
def partsB (ps ns : List Int) : Bool := decide (ps.length ≤ 392 ∧ ps.length = ns.length) && (allR ps 0 4611686016279904236 && allR ns 0 4611686016279904236)
theorem partsB_len {ps ns : List Int} (h : ¬ (ps.length ≤ 392 ∧ ps.length = ns.length)) : partsB ps ns = false := by
  unfold partsB; rw [decide_eq_false h]; rfl
theorem partsB_p {ps ns : List Int} (h : allR ps 0 4611686016279904236 = false) : partsB ps ns = false := by simp [partsB, h]
theorem partsB_n {ps ns : List Int} (h : allR ns 0 4611686016279904236 = false) : partsB ps ns = false := by simp [partsB, h]
theorem partsB_yes {ps ns : List Int} (h : ps.length ≤ 392 ∧ ps.length = ns.length) (h1 : allR ps 0 4611686016279904236 = true) (h2 : allR ns 0 4611686016279904236 = true) : partsB ps ns = true := by
  unfold partsB; rw [decide_eq_true h, h1, h2]; rfl
theorem seedsB_of {xs : List Int} (h : seedsB xs = true) : xs.length ≤ 392 ∧ allR xs 0 4611686016279904236 = true := by simpa [seedsB] using h
theorem seedsB_or {xs : List Int} (h : seedsB xs = false) : 392 < xs.length ∨ allR xs 0 4611686016279904236 = false := by
  rcases Nat.lt_or_ge 392 xs.length with h1 | h1
  · exact .inl h1
  · right; simpa [seedsB, h1] using h
theorem partsB_1 {ps ns : List Int} (h : seedsB ps = false) : partsB ps ns = false := by
  rcases seedsB_or h with h1 | h1
  · exact partsB_len (by omega)
  · exact partsB_p h1
theorem partsB_2 {ps ns : List Int} (h : seedsB ns = false) : partsB ps ns = false := by
  rcases seedsB_or h with h1 | h1
  · exact partsB_len (by omega)
  · exact partsB_n h1
theorem partsB_4 {ps ns : List Int} (h1 : seedsB ps = true) (h2 : seedsB ns = true) (h : ps.length = ns.length) : partsB ps ns = true :=
  partsB_yes ⟨(seedsB_of h1).1, h⟩ (seedsB_of h1).2 (seedsB_of h2).2
theorem partsB_of {ps ns : List Int} (h : partsB ps ns = true) : ps.length ≤ 392 ∧ ps.length = ns.length ∧ allR ps 0 4611686016279904236 = true ∧ allR ns 0 4611686016279904236 = true := by
  simp only [partsB, Bool.and_eq_true, decide_eq_true_eq] at h
  exact ⟨h.1.1, h.1.2, h.2.1, h.2.2⟩

set_option maxHeartbeats 400000 in
theorem hParts_any (A A' : Option Addr) (n c m c' : Nat) (ps ns : List Int) (w : World) (hx : Ints w A n ps) (hy : Ints w A' m ns) (hn : n ≤ 1099511627776) (hm : m ≤ 1099511627776) :
    Calls Try.prog 42 #[.slice A n c, .slice A' m c'] w fun e w' => e = .returned (.bool (partsB ps ns)) ∧ w = w' := by
  have h1 := Lib.hid hx.1
  have h2 := Lib.hid hy.1
  by_cases hl : n ≤ 392
  · by_cases he : n = m
    · subst he
      go_enter Try.func42, Try.ntmps42
      go_wp2_with fail
      refine (hDigest_any _ _ _ _ _ hx (by omega)).mono ?_
      rintro e w' ⟨rfl, rfl⟩
      cases hp : allR ps 0 4611686016279904236
      · have R := Lib.hid (partsB_p (ns := ns) hp)
        clear hp
        go_wp2
        go_ret
        exact ⟨ret_bool R.out.symm, rfl⟩
      · have HP := Lib.hid hp
        clear hp
        go_wp2_with fail
        refine (hDigest_any _ _ _ _ _ hy (by omega)).mono ?_
        rintro e w' ⟨rfl, rfl⟩
        cases hp : allR ns 0 4611686016279904236
        · have R := Lib.hid (partsB_n (ps := ps) hp)
          clear hp
          go_wp2
          go_ret
          exact ⟨ret_bool R.out.symm, rfl⟩
        · have R := Lib.hid (partsB_yes ⟨by rw [h1.out]; exact hl, by rw [h1.out, h2.out]⟩ HP.out hp)
          clear hp
          go_wp2
          go_ret
          exact ⟨ret_bool R.out.symm, rfl⟩
    · have R := Lib.hid (partsB_len (ps := ps) (ns := ns) (by rw [h1.out, h2.out]; omega))
      go_enter Try.func42, Try.ntmps42
      go_wp2
      go_ret
      exact ⟨ret_bool R.out.symm, rfl⟩
  · have R := Lib.hid (partsB_len (ps := ps) (ns := ns) (by rw [h1.out, h2.out]; omega))
    go_enter Try.func42, Try.ntmps42
    go_wp2
    go_ret
    exact ⟨ret_bool R.out.symm, rfl⟩

/-- The seals of the parts. -/
def sealAt (ps ns : List Int) (i : Nat) : Int := dig [1, ps[i]?.getD 0, ns[i]?.getD 0]
def sealL (ps ns : List Int) : List Int := tabl ps.length (sealAt ps ns)
def sealsV (ps ns : List Int) : List Int := if partsB ps ns = true then sealL ps ns else []
theorem seals_yes {ps ns : List Int} (h : partsB ps ns = true) : sealsV ps ns = sealL ps ns := by simp [sealsV, h]
theorem seals_no {ps ns : List Int} (h : partsB ps ns = false) : sealsV ps ns = [] := by simp [sealsV, h]

set_option maxHeartbeats 800000 in
theorem specSealParts_any (A A' : Option Addr) (n c m c' : Nat) (ps ns : List Int) (w : World) (hx : Ints w A n ps) (hy : Ints w A' m ns) (hn : n ≤ 1099511627776) (hm : m ≤ 1099511627776) :
    Calls Try.prog 12 #[.slice A n c, .slice A' m c'] w fun e w' => ∃ A2 c2, e = .returned (.tuple #[.slice A2 (sealsV ps ns).length c2, .bool (partsB ps ns)]) ∧ Own w' w.heap.size A2 (sealsV ps ns).length c2 (sealsV ps ns) ∧ Below w.heap.size w w' := by
  have h1 := Lib.hid hx.1
  have h2 := Lib.hid hy.1
  cases hB : partsB ps ns
  · have R := Lib.hid (seals_no hB)
    have RB := Lib.hid hB
    clear hB
    go_enter Try.func12, Try.ntmps12
    go_wp2_with fail
    refine (hParts_any _ _ _ _ _ _ _ _ _ hx hy hn hm).mono ?_
    rintro e w' ⟨rfl, rfl⟩
    rw [RB.out]
    go_wp2
    go_ret2
    rw [R.out]
    exact ⟨none, 0, rfl, Own.nil_, Below.refl _ _⟩
  · have R := Lib.hid (seals_yes hB)
    have RB := Lib.hid hB
    have hq := partsB_of hB
    have hl : n ≤ 392 := by rw [← h1.out]; exact hq.1
    have he : n = m := by rw [← h1.out, ← h2.out]; exact hq.2.1
    clear hB hq
    subst he
    have RL := Lib.hid (show n = (sealL ps ns).length by rw [sealL, tabl_len, h1.out])
    have hfin := Lib.hid (show tabl n (sealAt ps ns) = sealL ps ns by rw [sealL, h1.out])
    go_enter Try.func12, Try.ntmps12
    go_wp2_with fail
    refine (hParts_any _ _ _ _ _ _ _ _ _ hx hy hn hm).mono ?_
    rintro e w' ⟨rfl, rfl⟩
    rw [RB.out]
    go_wp2
    go_loopw [6, 15] (fun v i wr => ∃ (k : Nat) (A2 : Option Addr) (c2 : Nat), k ≤ n ∧ i = .int .i64 k ∧ v = .slice A2 k c2 ∧ Own wr w.heap.size A2 k c2 (tabl k (sealAt ps ns)) ∧ Below w.heap.size w wr) (fun _ i _ => n - (intOf i).toNat)
    case atStart => exact ⟨0, none, 0, Nat.zero_le _, rfl, rfl, Own.nil_, Below.refl _ _⟩
    case round =>
      obtain ⟨k, A2, c2, hk, rfl, rfl, hown, hbw⟩ := hrel
      by_cases hlt : k < n
      · obtain ⟨ad, rfl, hc⟩ := (hx.below hbw).at_ hlt
        obtain ⟨ad', rfl, hc'⟩ := (hy.below hbw).at_ hlt
        have E := Lib.hid (tabl_succ k (sealAt ps ns))
        have E0 : Hid (sealAt ps ns k = dig [1, ps[k]?.getD 0, ns[k]?.getD 0]) := Lib.hid rfl
        obtain ⟨x, hxe⟩ : ∃ x, ps[k]?.getD 0 = x := ⟨_, rfl⟩
        obtain ⟨y, hye⟩ : ∃ y, ns[k]?.getD 0 = y := ⟨_, rfl⟩
        rw [hxe] at hc E0
        rw [hye] at hc' E0
        rw [E0.out] at E
        have hsz := hbw.size
        clear hxe hye hx hy
        go_wp2_with fail
        refine (hSeal_any _ _ _).mono ?_
        rintro e w2 ⟨rfl, hb2⟩
        have ho2 := hown.below hb2
        have hbw2 := hbw.trans (hb2.mono hsz)
        have hsz2 := hbw2.size
        clear hown hbw hb2 hc hc'
        go_wp2_with (at_builtin; refine wp_app1 rfl _ _ rfl w.heap.size A2 k c2 _ rfl ho2 _ rfl rfl (by omega) hsz2 ?_; intro A3 c3 w3 hown3 hg3 _)
        have hb3 := below_write hbw2 hg3 hsz2 (fun k hk => (ho2.row_ge k hk).1)
        rw [← E.out] at hown3
        clear ho2 hbw2 hg3
        go_wp2
        go_roundw
        case rel => exact ⟨k + 1, A3, c3, by omega, by go_num, rfl, hown3, hb3⟩
        case measure => simp [intOf]; omega
      · obtain rfl : n = k := by omega
        go_wp2
        go_ret2
        rw [R.out]
        refine ⟨A2, c2, ret_sl RL.out rfl, ?_, hbw⟩
        rw [← RL.out, ← hfin.out]
        exact hown

set_option maxHeartbeats 800000 in
theorem implSealParts_any (A A' : Option Addr) (n c m c' : Nat) (ps ns : List Int) (w : World) (hx : Ints w A n ps) (hy : Ints w A' m ns) (hn : n ≤ 1099511627776) (hm : m ≤ 1099511627776) :
    Calls Try.prog 11 #[.slice A n c, .slice A' m c'] w fun e w' => ∃ A2 c2, e = .returned (.tuple #[.slice A2 (sealsV ps ns).length c2, .bool (partsB ps ns)]) ∧ Own w' w.heap.size A2 (sealsV ps ns).length c2 (sealsV ps ns) ∧ Below w.heap.size w w' := by
  have h1 := Lib.hid hx.1
  have h2 := Lib.hid hy.1
  go_enter Try.func11, Try.ntmps11
  go_wp2_with fail
  refine (areSeeds_any _ _ _ _ _ hx).mono ?_
  rintro e w' ⟨rfl, rfl⟩
  cases hS : seedsB ps
  · have RB := Lib.hid (partsB_1 (ns := ns) hS)
    have R := Lib.hid (seals_no RB.out)
    clear hS
    go_wp2
    go_ret2
    rw [R.out]
    exact ⟨none, 0, ret_sl rfl RB.out.symm, Own.nil_, Below.refl _ _⟩
  · have HS := Lib.hid hS
    clear hS
    go_wp2_with fail
    refine (areSeeds_any _ _ _ _ _ hy).mono ?_
    rintro e w' ⟨rfl, rfl⟩
    cases hS : seedsB ns
    · have RB := Lib.hid (partsB_2 (ps := ps) hS)
      have R := Lib.hid (seals_no RB.out)
      clear hS
      go_wp2
      go_ret2
      rw [R.out]
      exact ⟨none, 0, ret_sl rfl RB.out.symm, Own.nil_, Below.refl _ _⟩
    · have HS2 := Lib.hid hS
      clear hS
      by_cases he : n = m
      · subst he
        have hB := partsB_4 HS.out HS2.out (by rw [h1.out, h2.out])
        have R := Lib.hid (seals_yes hB)
        have RB := Lib.hid hB
        have hl : n ≤ 392 := by rw [← h1.out]; exact (partsB_of hB).1
        clear hB HS HS2
        have RL := Lib.hid (show n = (sealL ps ns).length by rw [sealL, tabl_len, h1.out])
        have hbl := Lib.hid (show (sealL ps ns).length = n by rw [sealL, tabl_len, h1.out])
        have hba : Hid (∀ k, k < n → (sealL ps ns)[k]?.getD 0 = dig [1, ps[k]?.getD 0, ns[k]?.getD 0]) := Lib.hid fun k h => tabl_at (by rw [h1.out]; exact h)
        obtain ⟨i0, hi, hz0, hz1, hz2⟩ := info_parts Try.infoInt
        go_wp2_with (at_make; refine wpList_make_full _ rfl _ _ 30 rfl w.heap.size 3 i0 _ 1 Try.underlying30 hi hz0 hz1 .i64 .i64 _ _ n rfl rfl rfl rfl (by rw [hz2]; omega) (by unfold maxLen; omega) (Nat.le_refl _) ?_; intro w1 hown hg)
        rw [map_replicate0] at hown
        have hO : Own w1 w.heap.size (some ⟨w.heap.size, 0, none⟩) n n (List.replicate n 0) := hown
        have hb1 : Below w.heap.size w w1 := (Below.refl _ _).grown hg (Nat.le_refl _) (by simp)
        clear hown hg hi hz0 hz1 hz2
        go_loopw [29] (fun i wr => ∃ (k : Nat) (ys : List Int), k ≤ n ∧ i = .int .i64 k ∧ Agree (sealL ps ns) ys n k ∧ Own wr w.heap.size (some ⟨w.heap.size, 0, none⟩) n n ys ∧ Below w.heap.size w wr) (fun i _ => n - (intOf i).toNat)
        case atStart => exact ⟨0, _, Nat.zero_le _, rfl, Agree.start _ _, hO, hb1⟩
        case round =>
          clear hO hb1
          obtain ⟨k, ys, hk, rfl, hag, hown, hbw⟩ := hrel
          by_cases hlt : k < n
          · obtain ⟨ad, rfl, hc⟩ := (hx.below hbw).at_ hlt
            obtain ⟨ad', rfl, hc'⟩ := (hy.below hbw).at_ hlt
            have R1 := Lib.hid (hag.step hbl.out hlt)
            rw [hba.out k hlt] at R1
            obtain ⟨x, hxe⟩ : ∃ x, ps[k]?.getD 0 = x := ⟨_, rfl⟩
            obtain ⟨y, hye⟩ : ∃ y, ns[k]?.getD 0 = y := ⟨_, rfl⟩
            rw [hxe] at hc
            rw [hye] at hc'
            rw [hxe, hye] at R1
            have hsz := hbw.size
            clear hxe hye hx hy hag
            go_wp2_with fail
            refine (sealSeed_any _ _ _).mono ?_
            rintro e w2 ⟨rfl, hb2⟩
            have ho2 := hown.below hb2
            have hbw2 := hbw.trans (hb2.mono hsz)
            clear hown hbw hb2 hc hc'
            obtain ⟨g, hge, _, hgl, hcg, hfg⟩ := ho2.at_ hlt
            simp only [Option.some.injEq, Addr.mk.injEq, and_true] at hge
            subst hge
            have R2 := Lib.hid (ho2.set (k := k) (x := dig [1, x, y]))
            have R3 := Lib.hid (hbw2.setCell (p := ⟨w.heap.size, k, none⟩) (Nat.le_refl _) (.int .i64 (dig [1, x, y])))
            clear hgl ho2 hbw2
            go_wp2
            go_roundw
            case rel => exact ⟨k + 1, _, by omega, by go_num, R1.out, R2.out, R3.out⟩
            case measure => simp [intOf]; omega
          · have RR := hag.fin hbl.out (by omega)
            subst RR
            clear hag
            go_wp2
            go_ret2
            rw [R.out]
            refine ⟨_, _, ret_sl RL.out RB.out.symm, ?_, hbw⟩
            rw [← RL.out]
            exact hown
      · have RB := Lib.hid (partsB_len (ps := ps) (ns := ns) (by rw [h1.out, h2.out]; omega))
        have R := Lib.hid (seals_no RB.out)
        clear HS HS2
        go_wp2
        go_ret2
        rw [R.out]
        exact ⟨none, 0, ret_sl rfl RB.out.symm, Own.nil_, Below.refl _ _⟩
end Go.Proofs.Ytfkgpccanagioaa
