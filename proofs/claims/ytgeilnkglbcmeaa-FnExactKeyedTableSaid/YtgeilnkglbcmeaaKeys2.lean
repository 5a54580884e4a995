/- The key of a record for some variables: the reference's contracts. -/
import Derived.Test.YtgeilnkglbcmeaaKeys
import Derived.Test.YtgeilnkglbcmeaaAppV
namespace Go.Proofs.Ytgeilnkglbcmeaa
open Go.RowKit

def partL (vs : List (ByteArray × Int)) (us : List Int) (k : Nat) : List (ByteArray × Int) := (List.range k).map fun i => (vN vs (ix us i), vL vs (ix us i))
def pickL (xs us : List Int) (k : Nat) : List Int := tabl k (fun i => xs[ix us i]?.getD 0)
theorem partL_len (vs : List (ByteArray × Int)) (us : List Int) (k : Nat) : (partL vs us k).length = k := by simp [partL]
theorem partL_succ (vs : List (ByteArray × Int)) (us : List Int) (k : Nat) : partL vs us (k + 1) = partL vs us k ++ [(vN vs (ix us k), vL vs (ix us k))] := by simp [partL, List.range_succ]
theorem partL_at {vs : List (ByteArray × Int)} {us : List Int} {k i : Nat} (h : i < k) : vL (partL vs us k) i = vL vs (ix us i) := by simp [partL, vL, h]
theorem pickL_at {xs us : List Int} {k i : Nat} (h : i < k) : (pickL xs us k)[i]?.getD 0 = xs[ix us i]?.getD 0 := tabl_at h
def prodN (vs : List (ByteArray × Int)) (us : List Int) : Nat → Int
  | 0 => 1
  | k + 1 => prodN vs us k * vL vs (ix us k)
theorem mul_pos8 {a L M : Int} (h0 : 1 ≤ a) (h1 : a ≤ M) (hL : 2 ≤ L) (hL8 : L ≤ 8) : 1 ≤ a * L ∧ a * L ≤ M * 8 := by
  have e1 : a * L ≤ M * 8 := Int.mul_le_mul h1 hL8 (by omega) (by omega)
  have e2 : 1 * 1 ≤ a * L := Int.mul_le_mul h0 (by omega) (by omega) (by omega)
  omega
structure PartOk (vs : List (ByteArray × Int)) (us : List Int) (n : Nat) : Prop where
  len : vs.length = n
  s : schB vs = true
  r : risB us n = true
section
variable {vs : List (ByteArray × Int)} {xs us : List Int} {n k : Nat}
theorem KeyOk.part (h : KeyOk vs xs us n) : PartOk vs us n := ⟨h.len, h.s, h.r⟩
theorem PartOk.ix_lt (h : PartOk vs us n) (hk : k < us.length) : ix us k < n ∧ us[k]?.getD 0 = (ix us k : Int) := by
  have h1 := risB_of h.r k hk
  have h2 := (schB_of h.s).1
  have h3 := h.len
  unfold ix
  omega
theorem PartOk.six (h : PartOk vs us n) : us.length ≤ 6 := by
  have h1 := risB_len h.r
  have h2 := (schB_of h.s).1
  have h3 := h.len
  omega
theorem PartOk.at_ (h : PartOk vs us n) (hk : k < us.length) : 2 ≤ vL vs (ix us k) ∧ vL vs (ix us k) ≤ 8 := by
  have h1 := (h.ix_lt hk).1
  have h3 := h.len
  exact (schB_of h.s).2 _ (by omega)
theorem PartOk.bd (h : PartOk vs us n) : ∀ k, k ≤ us.length → 1 ≤ prodN vs us k ∧ prodN vs us k ≤ 8 ^ k := by
  intro k
  induction k with
  | zero => intro _; simp [prodN]
  | succ k ih =>
    intro hk
    have h1 := ih (by omega)
    have h2 := h.at_ (show k < us.length by omega)
    simp only [prodN]
    rw [Int.pow_succ]
    exact mul_pos8 h1.1 h1.2 h2.1 h2.2
theorem PartOk.step (h : PartOk vs us n) (hk : k < us.length) : (1 ≤ prodN vs us k ∧ prodN vs us k ≤ 262144) ∧ (1 ≤ prodN vs us k * vL vs (ix us k) ∧ prodN vs us k * vL vs (ix us k) ≤ 2097152) := by
  have h1 := h.bd k (by omega)
  have h4 := h.six
  have h5 := pow8 (k := k) (by omega)
  have h2 := h.at_ hk
  have h3 := mul_pos8 (M := 262144) h1.1 (by omega) h2.1 h2.2
  omega
theorem PartOk.prod (h : PartOk vs us n) : 1 ≤ prodN vs us us.length ∧ prodN vs us us.length ≤ 262144 := by
  have h1 := h.bd us.length (Nat.le_refl _)
  have h5 := pow8 (k := us.length) h.six
  omega
/-- A key lies below the count of keys. -/
theorem KeyOk.lt_prod (h : KeyOk vs xs us n) : ∀ k, k ≤ us.length → keyN vs xs us k + 1 ≤ prodN vs us k := by
  intro k
  induction k with
  | zero => intro _; simp [keyN, prodN]
  | succ k ih =>
    intro hk
    have h1 := ih (by omega)
    have h2 := h.at_ (show k < us.length by omega)
    have e : (keyN vs xs us k + 1) * vL vs (ix us k) ≤ prodN vs us k * vL vs (ix us k) := Int.mul_le_mul_of_nonneg_right h1 (by omega)
    rw [Int.add_mul] at e
    simp only [keyN, prodN]
    omega
end

set_option maxHeartbeats 1000000 in
theorem sPart_any (A U : Option Addr) (n c l k' : Nat) (vs : List (ByteArray × Int)) (us : List Int) (w : World) (hx : SchR w A n c vs) (hu : IntR w U l us) (hk : PartOk vs us n) :
    Calls Try.prog 55 #[.slice A n c, .slice U l k'] w fun e w' => ∃ A' c', e = .returned (.slice A' l c') ∧ OwnV w' w.heap.size w'.heap.size A' l c' (partL vs us l) ∧ Below w.heap.size w w' := by
  have hl := Lib.hid hu.len
  have hl6 : l ≤ 6 := by have := hk.six; rw [hl.out] at this; exact this
  have HX := Lib.hid hx
  have HU := Lib.hid hu
  clear hx hu
  go_enter Try.func55, Try.ntmps55
  go_wp2
  go_loopw [5, 10] (fun a i wr => ∃ (j : Nat) (B : Option Addr) (c2 : Nat), j ≤ l ∧ i = .int .i64 j ∧ a = .slice B j c2 ∧ wr.ownsRow w.heap.size 89 2 (.slice B j c2) j (vcells (partL vs us j)) ∧ Below w.heap.size w wr) (fun _ i _ => l - (intOf i).toNat)
  case atStart => exact ⟨0, none, 0, Nat.zero_le _, rfl, rfl, World.ownsRow_nil _ _ _ _, Below.refl _ _⟩
  case round =>
    obtain ⟨j, B, c2, hj, rfl, rfl, hown, hbw⟩ := hrel
    by_cases hlt : j < l
    · have hju : j < us.length := by rw [hl.out]; exact hlt
      obtain ⟨hi1, hi2⟩ := hk.ix_lt hju
      obtain ⟨au, rfl, hcu⟩ := (HU.out.below hbw).i.at_ hlt
      obtain ⟨asv, rfl, hcn, hcs⟩ := (HX.out.below hbw).v.at_ hi1
      rw [hi2] at hcu
      have R := Lib.hid (partL_succ vs us j)
      generalize ix us j = t at *
      generalize vL vs t = L at *
      generalize vN vs t = s at *
      have hsz := hbw.size
      clear hi2 hju
      go_wp2_with (at_builtin; refine wp_appV1 (nm := s) (v := L) rfl _ _ rfl w.heap.size B j c2 _ rfl hown _ rfl rfl (by omega) hsz ?_; intro A2 c3 w2 hown2 hg2 _)
      have hb2 := (hbw.alloc hsz (.cells #[.string s, .int .i64 L] 89))
      have hb3 := Lib.hid (hbw.grown hg2 hsz (fun g hg => (World.ownsRow.lt hown g (by simpa [ownBlock_row] using hg)).1))
      rw [← R.out] at hown2
      have HO := Lib.hid hown2
      clear hown hbw hg2 hb2 hown2
      go_wp2
      go_roundw
      case rel => exact ⟨j + 1, A2, c3, by omega, by go_num, rfl, HO.out, hb3.out⟩
      case measure => simp [intOf]; omega
    · obtain rfl : j = l := by omega
      go_wp2
      go_ret
      exact ⟨B, c2, rfl, ⟨hown, fun g hg => (World.ownsRow.lt hown g (by simpa [ownBlock_row] using hg)).2, by omega⟩, hbw⟩

set_option maxHeartbeats 1000000 in
theorem sPick_any (V U : Option Addr) (m d l k' : Nat) (xs us : List Int) (w : World) (hy : IntR w V m xs) (hu : IntR w U l us) (hr : ∀ k, k < l → ix us k < m ∧ us[k]?.getD 0 = (ix us k : Int)) :
    Calls Try.prog 106 #[.slice V m d, .slice U l k'] w fun e w' => ∃ A' c', e = .returned (.slice A' l c') ∧ OwnI w' w.heap.size w'.heap.size A' l c' (pickL xs us l) ∧ Below w.heap.size w w' := by
  have hl := Lib.hid hu.len
  have hln := hu.bd
  have HY := Lib.hid hy
  have HU := Lib.hid hu
  clear hy hu
  go_enter Try.func106, Try.ntmps106
  go_wp2
  go_loopw [5, 10] (fun a i wr => ∃ (j : Nat) (B : Option Addr) (c2 : Nat), j ≤ l ∧ i = .int .i64 j ∧ a = .slice B j c2 ∧ Own wr w.heap.size B j c2 (pickL xs us j) ∧ Below w.heap.size w wr) (fun _ i _ => l - (intOf i).toNat)
  case atStart => exact ⟨0, none, 0, Nat.zero_le _, rfl, rfl, Own.nil_, Below.refl _ _⟩
  case round =>
    obtain ⟨j, B, c2, hj, rfl, rfl, hown, hbw⟩ := hrel
    by_cases hlt : j < l
    · obtain ⟨hi1, hi2⟩ := hr j hlt
      obtain ⟨au, rfl, hcu⟩ := (HU.out.below hbw).i.at_ hlt
      obtain ⟨av, rfl, hcv⟩ := (HY.out.below hbw).i.at_ hi1
      rw [hi2] at hcu
      have R := Lib.hid (show pickL xs us (j + 1) = pickL xs us j ++ [xs[ix us j]?.getD 0] from tabl_succ j _)
      have HR := Lib.hid hr
      clear hr
      generalize ix us j = t at *
      generalize xs[t]?.getD 0 = v at *
      have hsz := hbw.size
      clear hi2
      go_wp2_with (at_builtin; refine wp_app1 (v := v) rfl _ _ rfl w.heap.size B j c2 _ rfl hown _ rfl rfl (by omega) hsz ?_; intro A2 c3 w2 hown2 hg2 _)
      have hb3 := Lib.hid (below_write hbw hg2 hsz (fun k hk => (hown.row_ge k hk).1))
      rw [← R.out] at hown2
      have HO := Lib.hid hown2
      clear hown hbw hg2 hown2
      go_wp2
      go_roundw
      case rel => exact ⟨j + 1, A2, c3, by omega, by go_num, rfl, HO.out, hb3.out⟩
      case measure => simp [intOf]; omega
    · obtain rfl : j = l := by omega
      go_wp2
      go_ret
      exact ⟨B, c2, rfl, OwnI.of_own hown (by omega), hbw⟩

set_option maxHeartbeats 1000000 in
theorem sIndex_any (A V : Option Addr) (n c l d : Nat) (vs : List (ByteArray × Int)) (xs us : List Int) (w : World) (hx : VarsR w A l (partL vs us l)) (hy : Ints w V l (pickL xs us l)) (hl : us.length = l) (hk : KeyOk vs xs us n) :
    Calls Try.prog 105 #[.slice A l c, .slice V l d] w fun e w' => e = .returned (.int .i64 (keyV vs xs us)) ∧ Below w.heap.size w w' := by
  have hl' := Lib.hid hl
  have hl6 : l ≤ 6 := by have := hk.six; rw [hl] at this; exact this
  clear hl
  have HX := Lib.hid hx
  have HY := Lib.hid hy
  clear hx hy
  go_enter Try.func105, Try.ntmps105
  go_wp2
  go_loopw [5, 10] (fun a i wr => ∃ j : Nat, j ≤ l ∧ i = .int .i64 j ∧ a = .int .i64 (keyN vs xs us j) ∧ Below w.heap.size w wr) (fun _ i _ => l - (intOf i).toNat)
  case atStart => exact ⟨0, Nat.zero_le _, rfl, rfl, Below.refl _ _⟩
  case round =>
    obtain ⟨j, hj, rfl, rfl, hbw⟩ := hrel
    by_cases hlt : j < l
    · have hju : j < us.length := by rw [hl'.out]; exact hlt
      obtain ⟨hs1, hs2⟩ := hk.step hju
      have ha := hk.at_ hju
      obtain ⟨asv, rfl, hcn, hcs⟩ := (HX.out.below hbw).at_ hlt
      obtain ⟨av, rfl, hcv⟩ := (HY.out.below hbw).at_ hlt
      rw [partL_at hlt] at hcs
      rw [pickL_at hlt] at hcv
      have R := Lib.hid (show keyN vs xs us j * vL vs (ix us j) + xs[ix us j]?.getD 0 = keyN vs xs us (j + 1) from rfl)
      generalize vL vs (ix us j) = L at *
      generalize xs[ix us j]?.getD 0 = v at *
      generalize keyN vs xs us j = a at *
      generalize vN (partL vs us l) j = s at *
      have hb2 := hbw.alloc hbw.size (.cells #[.string s, .int .i64 L] 89)
      have ld := block_lt_of_cell hcv
      have hcv2 := ((below_new wr (.cells #[.string s, .int .i64 L] 89)).cell ld).trans hcv
      have HB := Lib.hid hb2
      obtain ⟨p, hp⟩ : ∃ p, a * L = p := ⟨_, rfl⟩
      rw [hp] at hs2 R
      have hw1 : IntKind.i64.wrap (a * L) = p := by rw [hp]; exact IntWalk.i64_in _ (by omega)
      have hw2 : IntKind.i64.wrap (p + v) = p + v := IntWalk.i64_in _ (by omega)
      clear hbw hju hp hb2
      go_wp2
      go_quiet (fail)
      clear hw1 hw2
      go_wp2
      rw [R.out]
      go_roundw
      case rel => exact ⟨j + 1, by omega, by go_num, rfl, below_drewN HB.out _⟩
      case measure => simp [intOf]; omega
    · obtain rfl : j = l := by omega
      have R := Lib.hid (show keyN vs xs us j = keyV vs xs us by unfold keyV; rw [hl'.out])
      go_wp2
      go_ret
      exact ⟨ret_int R.out, hbw⟩

set_option maxHeartbeats 1000000 in
theorem swKey_any (A V U : Option Addr) (n c m d l k' : Nat) (vs : List (ByteArray × Int)) (xs us : List Int) (w : World) (hx : SchR w A n c vs) (hy : IntR w V m xs) (hu : IntR w U l us) (hk : KeyOk vs xs us n) :
    Calls Try.prog 139 #[.slice A n c, .slice V m d, .slice U l k'] w fun e w' => e = .returned (.int .i64 (keyV vs xs us)) ∧ Below w.heap.size w w' := by
  have hl := Lib.hid hu.len
  have hm := Lib.hid (show m = n by have := (valsB_of hk.v).1; rw [hy.len, hx.len] at this; exact this)
  go_enter Try.func139, Try.ntmps139
  go_wp2_with fail
  refine (sPart_any _ _ n _ l _ vs us _ hx hu hk.part).mono ?_
  rintro e w1 ⟨A1, c1, rfl, o1, b1⟩
  have hy1 := hy.below b1
  have hu1 := hu.below b1
  clear hx hy hu
  go_wp2_with fail
  refine (sPick_any _ _ m _ l _ xs us _ hy1 hu1 (fun k hkl => by rw [hm.out]; exact hk.ix_lt (by rw [hl.out]; exact hkl))).mono ?_
  rintro e w2 ⟨A2, c2, rfl, o2, b2⟩
  have o1' := o1.below b2
  have B2 := Lib.hid (b1.trans (b2.mono b1.size))
  clear o1 b1 b2 hy1 hu1
  go_wp2_with fail
  refine (sIndex_any _ _ n _ l _ vs xs us _ o1'.vars o2.ints hl.out hk).mono ?_
  rintro e w3 ⟨rfl, b3⟩
  have B3 := Lib.hid (B2.out.trans (b3.mono B2.out.size))
  clear o1' o2 b3 B2
  go_wp2
  go_ret
  exact ⟨rfl, B3.out⟩

set_option maxHeartbeats 1000000 in
theorem sCount_any (A : Option Addr) (n c l : Nat) (vs : List (ByteArray × Int)) (us : List Int) (w : World) (hx : VarsR w A l (partL vs us l)) (hl : us.length = l) (hk : PartOk vs us n) :
    Calls Try.prog 54 #[.slice A l c] w fun e w' => e = .returned (.int .i64 (prodN vs us l)) ∧ Below w.heap.size w w' := by
  have hl' := Lib.hid hl
  have hl6 : l ≤ 6 := by have := hk.six; rw [hl] at this; exact this
  clear hl
  have HX := Lib.hid hx
  clear hx
  go_enter Try.func54, Try.ntmps54
  go_wp2
  go_loopw [3, 8] (fun a i wr => ∃ j : Nat, j ≤ l ∧ i = .int .i64 j ∧ a = .int .i64 (prodN vs us j) ∧ Below w.heap.size w wr) (fun _ i _ => l - (intOf i).toNat)
  case atStart => exact ⟨0, Nat.zero_le _, rfl, rfl, Below.refl _ _⟩
  case round =>
    obtain ⟨j, hj, rfl, rfl, hbw⟩ := hrel
    by_cases hlt : j < l
    · have hju : j < us.length := by rw [hl'.out]; exact hlt
      obtain ⟨hs1, hs2⟩ := hk.step hju
      have ha := hk.at_ hju
      obtain ⟨asv, rfl, hcn, hcs⟩ := (HX.out.below hbw).at_ hlt
      rw [partL_at hlt] at hcs
      have R := Lib.hid (show prodN vs us j * vL vs (ix us j) = prodN vs us (j + 1) from rfl)
      generalize vL vs (ix us j) = L at *
      generalize prodN vs us j = a at *
      generalize vN (partL vs us l) j = s at *
      have hb2 := Lib.hid (hbw.alloc hbw.size (.cells #[.string s, .int .i64 L] 89))
      clear hbw hju
      go_wp2
      rw [R.out]
      go_roundw
      case rel => exact ⟨j + 1, by omega, by go_num, rfl, hb2.out⟩
      case measure => simp [intOf]; omega
    · obtain rfl : j = l := by omega
      go_wp2
      go_ret
      exact ⟨rfl, hbw⟩
end Go.Proofs.Ytgeilnkglbcmeaa
