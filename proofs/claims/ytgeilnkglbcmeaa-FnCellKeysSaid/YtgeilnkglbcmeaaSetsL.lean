/- The laws' helpers over rows of rows, and LinkSets of both sides in the laws' form. -/
import Derived.Test.YtgeilnkglbcmeaaSets
namespace Go.Proofs.Ytgeilnkglbcmeaa
open Go.RowKit

set_option maxHeartbeats 800000 in
theorem eqIntSS_law (A A' : Option Addr) (n c c' : Nat) (L : Nat → List Int) (w : World) (hx : IntsS w A n L) (hy : IntsS w A' n L) (hn : n ≤ 1099511627776) (hL : ∀ j, j < n → (L j).length ≤ 1099511627776) :
    Calls Try.prog 65 #[.slice A n c, .slice A' n c'] w fun e w' => e = .returned (.bool true) ∧ Below w.heap.size w w' := by
  go_enter Try.func65, Try.ntmps65
  go_wp2
  go_loopw [5] (fun i wr => ∃ (k : Nat), k ≤ n ∧ i = .int .i64 k ∧ Below w.heap.size w wr) (fun i _ => n - (intOf i).toNat)
  case atStart => exact ⟨0, Nat.zero_le _, rfl, Below.refl _ _⟩
  case round =>
    obtain ⟨k, hk, rfl, hbw⟩ := hrel
    by_cases hlt : k < n
    · obtain ⟨ad, rfl, V, cc, hc, hv⟩ := (hx.below hbw).at_ hlt
      obtain ⟨ad', rfl, V', cc', hd, hv'⟩ := (hy.below hbw).at_ hlt
      have hm := hL k hlt
      clear hx hy hL
      have HV := Lib.hid hv
      have HV' := Lib.hid hv'
      clear hv hv'
      generalize L k = xs at *
      generalize xs.length = m at *
      have hsz := hbw.size
      have l0 := block_lt_of_cell hc
      have m0 := block_lt_of_cell hd
      go_wp2
      go_region_held3 (fun w2 => w2.cell? (ad.add k) = some (.slice V m cc) ∧ w2.cell? (ad'.add k) = some (.slice V' m cc')) (go_keep) ((go_at_call 15; refine (eqIntS_law _ _ m _ _ xs _ (by exact HV.out) (by exact HV'.out) hm).mono ?_; rintro e w2 ⟨rfl, hb2⟩; have g1 := (hb2.cell l0).trans hc; have g4 := (hb2.cell m0).trans hd; have hbw2 := hbw.drew.trans (hb2.mono hsz)))
      go_wp2
      go_roundw
      case rel => exact ⟨k + 1, by omega, by go_num, hbw2⟩
      case measure => simp [intOf]; omega
    · go_wp2
      go_ret
      exact ⟨rfl, hbw⟩

/-- How many numbers the rows below j hold. -/
def sumLen (L : Nat → List Int) : Nat → Nat
  | 0 => 0
  | j + 1 => sumLen L j + (L j).length
def markL (k0 : Int) (L : Nat → List Int) (j : Nat) : List Int := marks (k0 + sumLen L j) (L j).length
def markTo (k0 : Int) (L : Nat → List Int) (j : Nat) : Nat → List Int := fun t => if t < j then markL k0 L t else L t
theorem markTo_step (k0 : Int) (L : Nat → List Int) (j : Nat) : upd (markTo k0 L j) j (marks (k0 + sumLen L j) (L j).length) = markTo k0 L (j + 1) := by
  funext t
  unfold upd markTo markL
  by_cases e : t = j
  · subst e; simp
  · by_cases e2 : t < j
    · simp [e, e2, Nat.lt_succ_of_lt e2]
    · have e3 : ¬ t < j + 1 := by omega
      simp [e, e2, e3]
theorem sumLen_le {L : Nat → List Int} {n : Nat} (hL : ∀ j, j < n → (L j).length ≤ 1048576) : ∀ j, j ≤ n → sumLen L j ≤ j * 1048576 := by
  intro j
  induction j with
  | zero => intro _; simp [sumLen]
  | succ j ih => intro hj; have h1 := ih (by omega); have h2 := hL j (by omega); simp only [sumLen]; omega
/-- A row is marked in place: the outer cells stay. -/
theorem Sub.setIn {w w' : World} {lo hi : Nat} {ys : List Value} {L : Nat → List Int} {n i m c : Nat} {V : Option Addr} {l : List Int} (h : Sub w lo hi ys 1 0 L 0 n) (hi' : i < n) (hV : ys[i]? = some (.slice V m c)) (hlm : l.length = m)
    (hg : w.grownBy w' (rowOf V)) (ho : Own w' lo V m c l) : Sub w' lo hi ys 1 0 (upd L i l) 0 n := by
  subst hlm
  have e1 : ∀ t : Nat, t * 1 + 0 = t := fun t => by omega
  refine ⟨fun j h1 h2 => ?_, h.apart⟩
  obtain ⟨V3, c3, e3, ho3⟩ := h.row j h1 h2
  by_cases e : j = i
  · subst e
    rw [e1, hV] at e3
    simp only [Option.some.injEq, Value.slice.injEq] at e3
    obtain ⟨rfl, em, rfl⟩ := e3
    rw [e1, upd_at]
    refine ⟨V, c, hV, ⟨ho, ho3.top, ?_⟩⟩
    rw [em]; exact ho3.small
  · rw [upd_ne _ _ e]
    refine ⟨V3, c3, e3, ⟨ho3.own.far hg (fun g hA eg => ?_), ho3.top, ho3.small⟩⟩
    have hVi : (ys[i * 1 + 0]?).bind Value.ownBlock = some g := by rw [e1, hV]; simpa [ownBlock_rowOf] using eg
    have hVj : (ys[j * 1 + 0]?).bind Value.ownBlock = some g := by rw [e3, hA]; rfl
    rcases Nat.lt_or_ge j i with h4 | h4
    · exact h.apart j i g (by omega) h4 hi' hVj hVi
    · exact h.apart i j g (by omega) (by omega) h2 hVi hVj

set_option maxHeartbeats 1000000 in
theorem markIntSS_law (A : Option Addr) (lo hi n c : Nat) (k0 : Int) (L : Nat → List Int) (w : World) (hx : OwnII w lo hi A n c L) (hn : n ≤ 1048576) (hL : ∀ j, j < n → (L j).length ≤ 1048576) (h0 : 0 ≤ k0) (h1 : k0 ≤ 2305843009213693952) :
    Calls Try.prog 68 #[.slice A n c, .int .i64 k0] w fun e w' => e = .returned (.int .i64 (k0 + sumLen L n)) ∧ OwnII w' lo hi A n c (markL k0 L) ∧ Chg lo hi w w' := by
  have htop := hx.top
  have hsm := hx.small
  obtain ⟨y0, hown, hsub⟩ := hx.cells
  clear hx
  have hsl := Lib.hid (sumLen_le hL)
  go_enter Try.func68, Try.ntmps68
  go_wp2
  go_loopw [1, 5] (fun a i wr => ∃ (j : Nat), j ≤ n ∧ i = .int .i64 j ∧ a = .int .i64 (k0 + sumLen L j) ∧ wr.ownsRow lo 27 1 (.slice A n c) n y0 ∧ Sub wr lo hi y0 1 0 (markTo k0 L j) 0 n ∧ Chg lo hi w wr) (fun _ i _ => n - (intOf i).toNat)
  case atStart => exact ⟨0, Nat.zero_le _, rfl, by simp [sumLen], hown, hsub.fn (fun t _ _ => by simp [markTo]), Chg.refl _ _ _⟩
  case round =>
    clear hown hsub
    obtain ⟨j, hj, rfl, rfl, hown, hsub, hbw⟩ := hrel
    by_cases hjn : j < n
    · obtain ⟨g, rfl, hlg, hgs⟩ := row_head hown (by omega)
      obtain ⟨V, cc, e2, hV⟩ := hsub.row j (Nat.zero_le _) hjn
      rw [Nat.mul_one, Nat.add_zero] at e2
      have hLj : markTo k0 L j j = L j := by simp [markTo]
      rw [hLj] at e2 hV
      have hm := hL j hjn
      have hsj := hsl.out j (by omega)
      have HM := Lib.hid (markTo_step k0 L j)
      have hc2 : wr.cell? ⟨g, j, none⟩ = some (.slice V (L j).length cc) := (World.ownsRow.cellAt hown j (by have := hown.1; omega)).trans e2
      have HS := Lib.hid (show ((sumLen L j : Nat) : Int) + (L j).length = (sumLen L (j + 1) : Nat) by simp [sumLen])
      have Q := Lib.hid (fun w3 (hg : wr.grownBy w3 (rowOf V)) (ho : Own w3 lo V (L j).length cc (marks (k0 + sumLen L j) (L j).length)) => And.intro (hsub.setIn hjn e2 (marks_len _ _) hg ho) (And.intro (World.ownsRow.kept hown hg (by
        have := row_ne hV.own hown (by decide)
        exact .inr (fun e => this e.symm))) (hbw.trans (Chg.of_grown hg hV.row))))
      have HV := Lib.hid hV.own
      clear hown hsub hV hbw hL e2 hLj
      generalize (L j).length = m at *
      generalize hs1 : sumLen L j = s at *
      have hs1' := Lib.hid hs1
      clear hs1
      go_wp2_with (go_at_call 22; refine (markIntS_any V lo m cc (k0 + s) (L j) _ HV.out (by omega) (by omega) (by omega)).mono ?_; rintro e w3 ⟨rfl, ho3, hg3⟩; obtain ⟨q1, q2, q3⟩ := Q.out w3 hg3 ho3; have Q1 := Lib.hid q1; have Q2 := Lib.hid q2; have Q3 := Lib.hid q3; clear q1 q2 q3 hg3 ho3)
      go_roundw
      case rel => exact ⟨j + 1, by omega, by go_num, val_int (by have := HS.out; omega), Q2.out, by rw [← HM.out]; exact Q1.out, Q3.out⟩
      case measure => simp [intOf]; omega
    · obtain rfl : j = n := by omega
      have R := Lib.hid (hsub.fn (L' := markL k0 L) (fun t _ ht => by simp [markTo, ht]))
      go_wp2
      go_ret
      exact ⟨rfl, ⟨⟨y0, hown, R.out⟩, htop, hsm⟩, hbw⟩

/-- LinkSets' count of rows. -/
def lsN (vs : List (ByteArray × Int)) (rs qs : List RecD) (us : List Int) : Nat := if linkedB vs rs qs us = true then rs.length else 0
theorem lsN_yes {vs : List (ByteArray × Int)} {rs qs : List RecD} {us : List Int} (h : linkedB vs rs qs us = true) : lsN vs rs qs us = rs.length := by rw [lsN, if_pos h]
theorem lsN_no {vs : List (ByteArray × Int)} {rs qs : List RecD} {us : List Int} (h : linkedB vs rs qs us = false) : lsN vs rs qs us = 0 := by rw [lsN, if_neg (by simp [h])]
theorem OwnII.nil_ {w : World} {lo hi : Nat} {L : Nat → List Int} : OwnII w lo hi none 0 0 L := ⟨⟨[], World.ownsRow_nil _ _ _ _, ⟨fun j _ h => absurd h (by omega), fun i j g _ h1 h2 => absurd h2 (by omega)⟩⟩, (fun k hk => by cases hk), by omega⟩
theorem OwnII.fit {w : World} {A : Option Addr} {n c lo lo' hi : Nat} {L : Nat → List Int} (h : OwnII w lo hi A n c L) (hl : lo' ≤ lo) : OwnII w lo' w.heap.size A n c L := by
  obtain ⟨ys, h1, h2⟩ := h.cells
  refine ⟨⟨ys, ?_, h2.fit hl⟩, fun g hg => (World.ownsRow.lt h1 g (by simpa [ownBlock_row] using hg)).2, h.small⟩
  refine ⟨h1.1, ?_⟩
  rcases h1.2 with h0 | ⟨g, cap, cur, hv, hb, hr⟩
  · exact .inl h0
  · exact .inr ⟨g, cap, cur, hv, by omega, hr⟩

def RetSets (w : World) (n : Nat) (b : Bool) (L : Nat → List Int) (e : Ending) (w' : World) : Prop :=
  ∃ A' c', e = .returned (.tuple #[.slice A' n c', .bool b]) ∧ OwnII w' w.heap.size w'.heap.size A' n c' L ∧ Below w.heap.size w w'

set_option maxHeartbeats 1000000 in
theorem implLinkSets_law (A B C U : Option Addr) (n c m d m2 d2 l k' : Nat) (vs : List (ByteArray × Int)) (rs qs : List RecD) (us : List Int) (w : World) (hx : SchR w A n c vs) (hy : DatR w B m rs) (hz : DatR w C m2 qs) (hu : IntR w U l us) :
    Calls Try.prog 46 #[.slice A n c, .slice B m d, .slice C m2 d2, .slice U l k'] w (RetSets w (lsN vs rs qs us) (linkedB vs rs qs us) (setL vs us rs qs)) := by
  have hlen := hx.len
  have hm := Lib.hid hy.len
  cases hB : linkedB vs rs qs us
  · have HB := Lib.hid hB
    have HN := Lib.hid (lsN_no hB)
    rw [HN.out]
    clear hB hlen
    go_enter Try.func46, Try.ntmps46
    go_wp2_with fail
    refine (areLinked_any _ _ _ _ n _ m _ m2 _ l _ vs rs qs us _ hx hy hz hu).mono ?_
    rintro e w1 ⟨rfl, b1⟩
    rw [HB.out]
    have B1 := Lib.hid b1
    clear b1 hx hy hz hu
    go_wp2
    go_ret2
    exact ⟨none, 0, rfl, OwnII.nil_, B1.out⟩
  · have HB := Lib.hid hB
    have HN := Lib.hid (show lsN vs rs qs us = m by rw [lsN_yes hB, hm.out])
    obtain ⟨hk1, hk2⟩ := linked_all hlen hB
    rw [HN.out]
    clear hB hlen
    go_enter Try.func46, Try.ntmps46
    go_wp2_with fail
    refine (areLinked_any _ _ _ _ n _ m _ m2 _ l _ vs rs qs us _ hx hy hz hu).mono ?_
    rintro e w1 ⟨rfl, b1⟩
    rw [HB.out]
    go_wp2_with fail
    refine (linkSets_any _ _ _ _ n _ m _ m2 _ l _ vs rs qs us _ (hx.below b1) (hy.below b1) (hz.below b1) (hu.below b1) hk1 hk2).mono ?_
    rintro e w2 ⟨A2, c2, rfl, o2, b2⟩
    have B2 := Lib.hid (b1.trans (b2.mono b1.size))
    have O2 := Lib.hid (o2.fit b1.size)
    clear b1 b2 o2 hx hy hz hu
    go_wp2
    go_ret2
    exact ⟨A2, c2, rfl, O2.out, B2.out⟩

set_option maxHeartbeats 1000000 in
theorem specLinkSets_law (A B C U : Option Addr) (n c m d m2 d2 l k' : Nat) (vs : List (ByteArray × Int)) (rs qs : List RecD) (us : List Int) (w : World) (hx : SchR w A n c vs) (hy : DatR w B m rs) (hz : DatR w C m2 qs) (hu : IntR w U l us) :
    Calls Try.prog 47 #[.slice A n c, .slice B m d, .slice C m2 d2, .slice U l k'] w (RetSets w (lsN vs rs qs us) (linkedB vs rs qs us) (setL vs us rs qs)) := by
  have hlen := hx.len
  have hm := Lib.hid hy.len
  cases hB : linkedB vs rs qs us
  · have HB := Lib.hid hB
    have HN := Lib.hid (lsN_no hB)
    rw [HN.out]
    clear hB hlen
    go_enter Try.func47, Try.ntmps47
    go_wp2_with fail
    refine (liTwo_any _ _ _ _ n _ m _ m2 _ l _ vs rs qs us _ hx hy hz hu).mono ?_
    rintro e w1 ⟨rfl, b1⟩
    rw [HB.out]
    have B1 := Lib.hid b1
    clear b1 hx hy hz hu
    go_wp2
    go_ret2
    exact ⟨none, 0, rfl, OwnII.nil_, B1.out⟩
  · have HB := Lib.hid hB
    have HN := Lib.hid (show lsN vs rs qs us = m by rw [lsN_yes hB, hm.out])
    obtain ⟨hk1, hk2⟩ := linked_all hlen hB
    rw [HN.out]
    clear hB hlen
    go_enter Try.func47, Try.ntmps47
    go_wp2_with fail
    refine (liTwo_any _ _ _ _ n _ m _ m2 _ l _ vs rs qs us _ hx hy hz hu).mono ?_
    rintro e w1 ⟨rfl, b1⟩
    rw [HB.out]
    go_wp2_with fail
    refine (liSets_any _ _ _ _ n _ m _ m2 _ l _ vs rs qs us _ (hx.below b1) (hy.below b1) (hz.below b1) (hu.below b1) hk1 hk2).mono ?_
    rintro e w2 ⟨A2, c2, rfl, o2, b2⟩
    have B2 := Lib.hid (b1.trans (b2.mono b1.size))
    have O2 := Lib.hid (o2.fit b1.size)
    clear b1 b2 o2 hx hy hz hu
    go_wp2
    go_ret2
    exact ⟨A2, c2, rfl, O2.out, B2.out⟩
end Go.Proofs.Ytgeilnkglbcmeaa
