/- Several small texts in one: AppV, RKey, RKeyF, Keys, Keys2. -/
import Derived.Test.YtahbcnclhohnaaaGreatZb
import Derived.Test.YtahbcnclhohnaaaGreatZa
import Derived.Test.YtahbcnclhohnaaaGreatZe
namespace Go.Proofs.YtahbcnclhohnaaaGreat

section
open Go.RowKit

theorem vcells_snoc (vs : List (ByteArray × Int)) (s : ByteArray) (x : Int) : vcells (vs ++ [(s, x)]) = vcells vs ++ [.string s, .int .i64 x] := by
  induction vs with
  | nil => rfl
  | cons p vs ih => simp only [List.cons_append, vcells, ih]

/-- 'append(s, v)' of one variable: v lies in a new block of its own. -/
theorem wp_appV1 {wr : World} {nm : ByteArray} {v : Int} {ops : Array Oper} {rest : List Oper} {o : Oper} {a : Act} {Q : Exit → Act → World → Prop} (hgd : o.guard = none) (s x : Operand)
    (ho : o.op = .call { callee := .builtin .append, args := #[s, x], argTypes := #[24, 24] })
    (B : Nat) (A : Option Addr) (n c : Nat) (vs : List (ByteArray × Int)) (hs : a.eval s = .slice A n c) (hown : wr.ownsRow B 105 2 (.slice A n c) n (vcells vs))
    (g : Nat) (hx : a.eval x = .slice (some ⟨g, 0, none⟩) 1 1) (hg : g = wr.heap.size) (hsz : n + 1 ≤ 1099511627776) (hB : B ≤ wr.heap.size)
    (h : ∀ A2 c2 w', w'.ownsRow B 105 2 (.slice A2 (n + 1) c2) (n + 1) (vcells (vs ++ [(nm, v)])) → wr.grownBy w' (rowOf A) → (rowOf A2 = rowOf A ∨ rowOf A2 = some (wr.heap.size + 1)) → wpList Tryz.prog ops Q rest (a.put o.dst (.slice A2 (n + 1) c2)) w') :
    wpList Tryz.prog ops Q (o :: rest) a (wr.alloc (.cells #[.string nm, .int .i64 v] 105)) := by
  obtain ⟨i0, hi, hz0, hz1, hz2⟩ := info_parts Tryz.infoVariable
  subst hg
  refine wpList_append_own_at _ hgd s x 24 ho B 105 i0 _ 2 24 Tryz.underlying24 hi hz0 hz1 hz2 rfl (by omega) (.slice A n c) n (vcells vs) hs (hown.alloc _) ⟨wr.heap.size, 0, none⟩ 1 1 [.string nm, .int .i64 v] hx rfl ?_ ?_
      (by unfold maxLen; omega) (by omega) (by simp; omega) ?_
  · intro j u hu
    have hb := box_new wr #[.string nm, .int .i64 v] 105
    rw [addr_add0]
    match j with
    | 0 => simp at hu; subst hu; exact box_cell hb 0 _ rfl
    | 1 => simp at hu; subst hu; exact box_cell hb 1 _ rfl
    | j + 2 => simp at hu
  · intro u hu
    simp at hu
    rcases hu with rfl | rfl <;> rfl
  · intro v' w' h1 h2 h3 h4
    rw [ownBlock_row] at h2 h4
    rw [← vcells_snoc] at h1
    have hv : ∃ A2 c2, v' = .slice A2 (n + 1) c2 := by
      rcases h1.2 with ⟨hv, h0⟩ | ⟨g, cap, cur, hv, _⟩
      · rw [h0]; exact ⟨none, 0, hv⟩
      · exact ⟨_, cap, hv⟩
    obtain ⟨A2, c2, rfl⟩ := hv
    rw [ownBlock_row] at h4
    exact h A2 c2 w' h1 (grownBy_trans (World.grownBy_alloc wr _ _) h2) (by simpa using h4)
end

section
open Go.RowKit

def rkey (sd x y : Int) (xs : List Int) : Int := dig ([5, sd, x, y] ++ xs) % 65536
theorem rkey_bd (sd x y : Int) (xs : List Int) : 0 ≤ rkey sd x y xs ∧ rkey sd x y xs < 65536 := ⟨Int.emod_nonneg _ (by omega), Int.emod_lt_of_pos _ (by omega)⟩
end

section
open Go.RowKit

def rkB (sd : Int) (vs : List (ByteArray × Int)) (x y : Int) (xs : List Int) : Bool := inR sd 0 4611686016279904236 && (schB vs && recB vs x y xs)
def rkV (sd : Int) (vs : List (ByteArray × Int)) (x y : Int) (xs : List Int) : Int := if rkB sd vs x y xs = true then rkey sd x y xs else 0
theorem rkV_no {sd x y : Int} {vs : List (ByteArray × Int)} {xs : List Int} (h : rkB sd vs x y xs = false) : rkV sd vs x y xs = 0 := by rw [rkV, if_neg (by simp [h])]
theorem rkV_yes {sd x y : Int} {vs : List (ByteArray × Int)} {xs : List Int} (h : rkB sd vs x y xs = true) : rkV sd vs x y xs = rkey sd x y xs := by rw [rkV, if_pos h]
theorem recB_vals {vs : List (ByteArray × Int)} {x y : Int} {xs : List Int} (h : recB vs x y xs = true) : valsB vs xs = true := by simp only [recB, Bool.and_eq_true] at h; exact h.2.2
theorem allR_one (a : Int) : allR [a] 0 4611686016279904236 = inR a 0 4611686016279904236 := by simp [allR]
theorem cell_later {w w' : World} {p : Addr} {v : Value} (hb : Below w.heap.size w w') (h : w.cell? p = some v) : w'.cell? p = some v := (hb.cell (block_lt_of_cell h)).trans h
end

section
open Go.RowKit

/-- The k-th number of a list, as a Nat. -/
def ix (us : List Int) (k : Nat) : Nat := (us[k]?.getD 0).toNat
/-- The key behind k of the variables us. -/
def keyN (vs : List (ByteArray × Int)) (xs us : List Int) : Nat → Int
  | 0 => 0
  | k + 1 => keyN vs xs us k * vL vs (ix us k) + xs[ix us k]?.getD 0
def keyV (vs : List (ByteArray × Int)) (xs us : List Int) : Int := keyN vs xs us us.length
/-- Schema, a record's values and key variables fit. -/
structure KeyOk (vs : List (ByteArray × Int)) (xs us : List Int) (n : Nat) : Prop where
  len : vs.length = n
  s : schB vs = true
  v : valsB vs xs = true
  r : risB us n = true
theorem KeyOk.ix_lt {vs : List (ByteArray × Int)} {xs us : List Int} {n k : Nat} (h : KeyOk vs xs us n) (hk : k < us.length) : ix us k < n ∧ us[k]?.getD 0 = (ix us k : Int) := by
  have h1 := risB_of h.r k hk
  have h2 := (schB_of h.s).1
  have h3 := h.len
  unfold ix
  omega
theorem KeyOk.at_ {vs : List (ByteArray × Int)} {xs us : List Int} {n k : Nat} (h : KeyOk vs xs us n) (hk : k < us.length) : (2 ≤ vL vs (ix us k) ∧ vL vs (ix us k) ≤ 8) ∧ 0 ≤ xs[ix us k]?.getD 0 ∧ xs[ix us k]?.getD 0 ≤ vL vs (ix us k) - 1 := by
  have h1 := (h.ix_lt hk).1
  have h3 := h.len
  exact ⟨(schB_of h.s).2 _ (by omega), (valsB_of h.v).2 _ (by omega)⟩
theorem KeyOk.six {vs : List (ByteArray × Int)} {xs us : List Int} {n : Nat} (h : KeyOk vs xs us n) : us.length ≤ 6 := by
  have h1 := risB_len h.r
  have h2 := (schB_of h.s).1
  have h3 := h.len
  omega
theorem mul_in {a L v M : Int} (h0 : 0 ≤ a) (h1 : a + 1 ≤ M) (hL : 2 ≤ L) (hL8 : L ≤ 8) (hv : 0 ≤ v) (hv2 : v ≤ L - 1) : (0 ≤ a * L ∧ a * L ≤ M * 8) ∧ 0 ≤ a * L + v ∧ a * L + v + 1 ≤ M * 8 := by
  have e1 : 0 ≤ a * L := Int.mul_nonneg h0 (by omega)
  have e2 : (a + 1) * L ≤ M * 8 := Int.mul_le_mul h1 hL8 (by omega) (by omega)
  rw [Int.add_mul] at e2
  omega
theorem KeyOk.bd {vs : List (ByteArray × Int)} {xs us : List Int} {n : Nat} (h : KeyOk vs xs us n) : ∀ k, k ≤ us.length → 0 ≤ keyN vs xs us k ∧ keyN vs xs us k + 1 ≤ 8 ^ k := by
  intro k
  induction k with
  | zero => intro _; simp [keyN]
  | succ k ih =>
    intro hk
    have h1 := ih (by omega)
    have h2 := h.at_ (show k < us.length by omega)
    have h3 := mul_in h1.1 h1.2 h2.1.1 h2.1.2 h2.2.1 h2.2.2
    simp only [keyN]
    rw [Int.pow_succ]
    exact h3.2
theorem pow8 {k : Nat} (h : k ≤ 6) : (8 : Int) ^ k ≤ 262144 := by
  have h1 : (8 : Nat) ^ k ≤ 8 ^ 6 := Nat.pow_le_pow_right (by omega) h
  have h2 : ((8 ^ k : Nat) : Int) ≤ ((8 ^ 6 : Nat) : Int) := Int.ofNat_le.2 h1
  simpa using h2
/-- What a round of the key's loop needs. -/
theorem KeyOk.step {vs : List (ByteArray × Int)} {xs us : List Int} {n k : Nat} (h : KeyOk vs xs us n) (hk : k < us.length) :
    (0 ≤ keyN vs xs us k ∧ keyN vs xs us k ≤ 262144) ∧ (0 ≤ keyN vs xs us k * vL vs (ix us k) ∧ keyN vs xs us k * vL vs (ix us k) ≤ 2097152) := by
  have h1 := h.bd k (by omega)
  have h2 := h.at_ hk
  have h3 := mul_in h1.1 h1.2 h2.1.1 h2.1.2 h2.2.1 h2.2.2
  have h4 := h.six
  have h5 := pow8 (k := k) (by omega)
  omega
theorem KeyOk.keyV_bd {vs : List (ByteArray × Int)} {xs us : List Int} {n : Nat} (h : KeyOk vs xs us n) : 0 ≤ keyV vs xs us ∧ keyV vs xs us < 262144 := by
  have h1 := h.bd us.length (Nat.le_refl _)
  have h5 := pow8 (k := us.length) h.six
  unfold keyV
  omega

set_option maxHeartbeats 1000000 in
theorem keyOf_any (A V U : Option Addr) (n c m d l k' : Nat) (x y : Int) (vs : List (ByteArray × Int)) (xs us : List Int) (w : World) (hx : SchR w A n c vs) (hy : IntR w V m xs) (hu : IntR w U l us) (hk : KeyOk vs xs us n) :
    Calls Tryz.prog 42 #[.slice A n c, .agg #[.int .i64 x, .int .i64 y, .slice V m d], .slice U l k'] w fun e w' => e = .returned (.int .i64 (keyV vs xs us)) ∧ Below w.heap.size w w' := by
  have hl := Lib.hid hu.len
  have hl6 : l ≤ 6 := by have := hk.six; rw [hl.out] at this; exact this
  have hm := Lib.hid (show m = n by have := (valsB_of hk.v).1; rw [hy.len, hx.len] at this; exact this)
  have b0 := below_new w (.cells #[.int .i64 x, .int .i64 y, .slice V m d] 79)
  have x0 := box_new w #[.int .i64 x, .int .i64 y, .slice V m d] 79
  have HX := Lib.hid (hx.below b0)
  have HY := Lib.hid (hy.below b0)
  have HU := Lib.hid (hu.below b0)
  clear hx hy hu
  go_enter Tryz.func42, Tryz.ntmps42
  go_wp2
  generalize w.alloc (.cells #[.int .i64 x, .int .i64 y, .slice V m d] 79) = w0 at *
  go_loopw [7, 12] (fun a i wr => ∃ j : Nat, j ≤ l ∧ i = .int .i64 j ∧ a = .int .i64 (keyN vs xs us j) ∧ Below w0.heap.size w0 wr) (fun _ i _ => l - (intOf i).toNat)
  case atStart => exact ⟨0, Nat.zero_le _, rfl, rfl, Below.refl _ _⟩
  case round =>
    obtain ⟨j, hj, rfl, rfl, hbw⟩ := hrel
    by_cases hlt : j < l
    · have hju : j < us.length := by rw [hl.out]; exact hlt
      obtain ⟨hi1, hi2⟩ := hk.ix_lt hju
      obtain ⟨hs1, hs2⟩ := hk.step hju
      have ha := hk.at_ hju
      obtain ⟨au, rfl, hcu⟩ := (HU.out.below hbw).i.at_ hlt
      obtain ⟨asv, rfl, _, hcs⟩ := (HX.out.below hbw).v.at_ hi1
      obtain ⟨av, rfl, hcv⟩ := (HY.out.below hbw).i.at_ (show ix us j < m by rw [hm.out]; exact hi1)
      rw [hi2] at hcu
      have R := Lib.hid (show keyN vs xs us j * vL vs (ix us j) + xs[ix us j]?.getD 0 = keyN vs xs us (j + 1) from rfl)
      have hc2 := (hbw.cell (p := ⟨w.heap.size, 2, none⟩) (lt_of_block x0)).trans (box_cell x0 2 (.slice (some av) m d) rfl)
      have hm' : ix us j < m := by rw [hm.out]; exact hi1
      generalize ix us j = t at *
      generalize vL vs t = L at *
      generalize xs[t]?.getD 0 = v at *
      generalize keyN vs xs us j = a at *
      have HB := Lib.hid hbw
      obtain ⟨p, hp⟩ : ∃ p, a * L = p := ⟨_, rfl⟩
      rw [hp] at hs2 R
      have hw1 : IntKind.i64.wrap (a * L) = p := by rw [hp]; exact IntWalk.i64_in _ (by omega)
      have hw2 : IntKind.i64.wrap (p + v) = p + v := IntWalk.i64_in _ (by omega)
      clear hbw hi2 hju hp
      go_wp2
      go_quiet (fail)
      clear hw1 hw2
      go_wp2
      rw [R.out]
      go_roundw
      case rel => exact ⟨j + 1, by omega, by go_num, rfl, below_drewN HB.out _⟩
      case measure => simp [intOf]; omega
    · obtain rfl : j = l := by omega
      have R := Lib.hid (show keyN vs xs us j = keyV vs xs us by unfold keyV; rw [hl.out])
      go_wp2
      go_ret
      exact ⟨ret_int R.out, b0.trans (hbw.mono b0.size)⟩
end

section
open Go.RowKit

def partL (vs : List (ByteArray × Int)) (us : List Int) (k : Nat) : List (ByteArray × Int) := (List.range k).map fun i => (vN vs (ix us i), vL vs (ix us i))
def pickL (xs us : List Int) (k : Nat) : List Int := tabl k (fun i => xs[ix us i]?.getD 0)
theorem partL_len (vs : List (ByteArray × Int)) (us : List Int) (k : Nat) : (partL vs us k).length = k := by simp [partL]
theorem partL_succ (vs : List (ByteArray × Int)) (us : List Int) (k : Nat) : partL vs us (k + 1) = partL vs us k ++ [(vN vs (ix us k), vL vs (ix us k))] := by simp [partL, List.range_succ]
theorem partL_at {vs : List (ByteArray × Int)} {us : List Int} {k i : Nat} (h : i < k) : vL (partL vs us k) i = vL vs (ix us i) := by simp [partL, vL, h]
theorem pickL_at {xs us : List Int} {k i : Nat} (h : i < k) : (pickL xs us k)[i]?.getD 0 = xs[ix us i]?.getD 0 := tabl_at h
def prodN (vs : List (ByteArray × Int)) (us : List Int) : Nat → Int
  | 0 => 1
  | k + 1 => prodN vs us k * vL vs (ix us k)
theorem mul_pos8 {a L M : Int} (h0 : 1 ≤ a) (h1 : a ≤ M) (hL : 2 ≤ L) (hL8 : L ≤ 8) : 1 ≤ a * L ∧ a * L ≤ M * 8 := by
  have e1 : a * L ≤ M * 8 := Int.mul_le_mul h1 hL8 (by omega) (by omega)
  have e2 : 1 * 1 ≤ a * L := Int.mul_le_mul h0 (by omega) (by omega) (by omega)
  omega
structure PartOk (vs : List (ByteArray × Int)) (us : List Int) (n : Nat) : Prop where
  len : vs.length = n
  s : schB vs = true
  r : risB us n = true
section
variable {vs : List (ByteArray × Int)} {xs us : List Int} {n k : Nat}
theorem KeyOk.part (h : KeyOk vs xs us n) : PartOk vs us n := ⟨h.len, h.s, h.r⟩
theorem PartOk.ix_lt (h : PartOk vs us n) (hk : k < us.length) : ix us k < n ∧ us[k]?.getD 0 = (ix us k : Int) := by
  have h1 := risB_of h.r k hk
  have h2 := (schB_of h.s).1
  have h3 := h.len
  unfold ix
  omega
theorem PartOk.six (h : PartOk vs us n) : us.length ≤ 6 := by
  have h1 := risB_len h.r
  have h2 := (schB_of h.s).1
  have h3 := h.len
  omega
theorem PartOk.at_ (h : PartOk vs us n) (hk : k < us.length) : 2 ≤ vL vs (ix us k) ∧ vL vs (ix us k) ≤ 8 := by
  have h1 := (h.ix_lt hk).1
  have h3 := h.len
  exact (schB_of h.s).2 _ (by omega)
theorem PartOk.bd (h : PartOk vs us n) : ∀ k, k ≤ us.length → 1 ≤ prodN vs us k ∧ prodN vs us k ≤ 8 ^ k := by
  intro k
  induction k with
  | zero => intro _; simp [prodN]
  | succ k ih =>
    intro hk
    have h1 := ih (by omega)
    have h2 := h.at_ (show k < us.length by omega)
    simp only [prodN]
    rw [Int.pow_succ]
    exact mul_pos8 h1.1 h1.2 h2.1 h2.2
theorem PartOk.step (h : PartOk vs us n) (hk : k < us.length) : (1 ≤ prodN vs us k ∧ prodN vs us k ≤ 262144) ∧ (1 ≤ prodN vs us k * vL vs (ix us k) ∧ prodN vs us k * vL vs (ix us k) ≤ 2097152) := by
  have h1 := h.bd k (by omega)
  have h4 := h.six
  have h5 := pow8 (k := k) (by omega)
  have h2 := h.at_ hk
  have h3 := mul_pos8 (M := 262144) h1.1 (by omega) h2.1 h2.2
  omega
theorem PartOk.prod (h : PartOk vs us n) : 1 ≤ prodN vs us us.length ∧ prodN vs us us.length ≤ 262144 := by
  have h1 := h.bd us.length (Nat.le_refl _)
  have h5 := pow8 (k := us.length) h.six
  omega
/-- A key lies below the count of keys. -/
theorem KeyOk.lt_prod (h : KeyOk vs xs us n) : ∀ k, k ≤ us.length → keyN vs xs us k + 1 ≤ prodN vs us k := by
  intro k
  induction k with
  | zero => intro _; simp [keyN, prodN]
  | succ k ih =>
    intro hk
    have h1 := ih (by omega)
    have h2 := h.at_ (show k < us.length by omega)
    have e : (keyN vs xs us k + 1) * vL vs (ix us k) ≤ prodN vs us k * vL vs (ix us k) := Int.mul_le_mul_of_nonneg_right h1 (by omega)
    rw [Int.add_mul] at e
    simp only [keyN, prodN]
    omega
end

set_option maxHeartbeats 1000000 in
theorem sPart_any (A U : Option Addr) (n c l k' : Nat) (vs : List (ByteArray × Int)) (us : List Int) (w : World) (hx : SchR w A n c vs) (hu : IntR w U l us) (hk : PartOk vs us n) :
    Calls Tryz.prog 102 #[.slice A n c, .slice U l k'] w fun e w' => ∃ A' c', e = .returned (.slice A' l c') ∧ OwnV w' w.heap.size w'.heap.size A' l c' (partL vs us l) ∧ Below w.heap.size w w' := by
  have hl := Lib.hid hu.len
  have hl6 : l ≤ 6 := by have := hk.six; rw [hl.out] at this; exact this
  have HX := Lib.hid hx
  have HU := Lib.hid hu
  clear hx hu
  go_enter Tryz.func102, Tryz.ntmps102
  go_wp2
  go_loopw [5, 10] (fun a i wr => ∃ (j : Nat) (B : Option Addr) (c2 : Nat), j ≤ l ∧ i = .int .i64 j ∧ a = .slice B j c2 ∧ wr.ownsRow w.heap.size 105 2 (.slice B j c2) j (vcells (partL vs us j)) ∧ Below w.heap.size w wr) (fun _ i _ => l - (intOf i).toNat)
  case atStart => exact ⟨0, none, 0, Nat.zero_le _, rfl, rfl, World.ownsRow_nil _ _ _ _, Below.refl _ _⟩
  case round =>
    obtain ⟨j, B, c2, hj, rfl, rfl, hown, hbw⟩ := hrel
    by_cases hlt : j < l
    · have hju : j < us.length := by rw [hl.out]; exact hlt
      obtain ⟨hi1, hi2⟩ := hk.ix_lt hju
      obtain ⟨au, rfl, hcu⟩ := (HU.out.below hbw).i.at_ hlt
      obtain ⟨asv, rfl, hcn, hcs⟩ := (HX.out.below hbw).v.at_ hi1
      rw [hi2] at hcu
      have R := Lib.hid (partL_succ vs us j)
      generalize ix us j = t at *
      generalize vL vs t = L at *
      generalize vN vs t = s at *
      have hsz := hbw.size
      clear hi2 hju
      go_wp2_with (at_builtin; refine wp_appV1 (nm := s) (v := L) rfl _ _ rfl w.heap.size B j c2 _ rfl hown _ rfl rfl (by omega) hsz ?_; intro A2 c3 w2 hown2 hg2 _)
      have hb2 := (hbw.alloc hsz (.cells #[.string s, .int .i64 L] 105))
      have hb3 := Lib.hid (hbw.grown hg2 hsz (fun g hg => (World.ownsRow.lt hown g (by simpa [ownBlock_row] using hg)).1))
      rw [← R.out] at hown2
      have HO := Lib.hid hown2
      clear hown hbw hg2 hb2 hown2
      go_wp2
      go_roundw
      case rel => exact ⟨j + 1, A2, c3, by omega, by go_num, rfl, HO.out, hb3.out⟩
      case measure => simp [intOf]; omega
    · obtain rfl : j = l := by omega
      go_wp2
      go_ret
      exact ⟨B, c2, rfl, ⟨hown, fun g hg => (World.ownsRow.lt hown g (by simpa [ownBlock_row] using hg)).2, by omega⟩, hbw⟩

set_option maxHeartbeats 1000000 in
theorem sPick_any (V U : Option Addr) (m d l k' : Nat) (xs us : List Int) (w : World) (hy : IntR w V m xs) (hu : IntR w U l us) (hr : ∀ k, k < l → ix us k < m ∧ us[k]?.getD 0 = (ix us k : Int)) :
    Calls Tryz.prog 103 #[.slice V m d, .slice U l k'] w fun e w' => ∃ A' c', e = .returned (.slice A' l c') ∧ OwnI w' w.heap.size w'.heap.size A' l c' (pickL xs us l) ∧ Below w.heap.size w w' := by
  have hl := Lib.hid hu.len
  have hln := hu.bd
  have HY := Lib.hid hy
  have HU := Lib.hid hu
  clear hy hu
  go_enter Tryz.func103, Tryz.ntmps103
  go_wp2
  go_loopw [5, 10] (fun a i wr => ∃ (j : Nat) (B : Option Addr) (c2 : Nat), j ≤ l ∧ i = .int .i64 j ∧ a = .slice B j c2 ∧ Own wr w.heap.size B j c2 (pickL xs us j) ∧ Below w.heap.size w wr) (fun _ i _ => l - (intOf i).toNat)
  case atStart => exact ⟨0, none, 0, Nat.zero_le _, rfl, rfl, Own.nil_, Below.refl _ _⟩
  case round =>
    obtain ⟨j, B, c2, hj, rfl, rfl, hown, hbw⟩ := hrel
    by_cases hlt : j < l
    · obtain ⟨hi1, hi2⟩ := hr j hlt
      obtain ⟨au, rfl, hcu⟩ := (HU.out.below hbw).i.at_ hlt
      obtain ⟨av, rfl, hcv⟩ := (HY.out.below hbw).i.at_ hi1
      rw [hi2] at hcu
      have R := Lib.hid (show pickL xs us (j + 1) = pickL xs us j ++ [xs[ix us j]?.getD 0] from tabl_succ j _)
      have HR := Lib.hid hr
      clear hr
      generalize ix us j = t at *
      generalize xs[t]?.getD 0 = v at *
      have hsz := hbw.size
      clear hi2
      go_wp2_with (at_builtin; refine wp_app1 (v := v) rfl _ _ rfl w.heap.size B j c2 _ rfl hown _ rfl rfl (by omega) hsz ?_; intro A2 c3 w2 hown2 hg2 _)
      have hb3 := Lib.hid (below_write hbw hg2 hsz (fun k hk => (hown.row_ge k hk).1))
      rw [← R.out] at hown2
      have HO := Lib.hid hown2
      clear hown hbw hg2 hown2
      go_wp2
      go_roundw
      case rel => exact ⟨j + 1, A2, c3, by omega, by go_num, rfl, HO.out, hb3.out⟩
      case measure => simp [intOf]; omega
    · obtain rfl : j = l := by omega
      go_wp2
      go_ret
      exact ⟨B, c2, rfl, OwnI.of_own hown (by omega), hbw⟩

set_option maxHeartbeats 1000000 in
theorem sIndex_any (A V : Option Addr) (n c l d : Nat) (vs : List (ByteArray × Int)) (xs us : List Int) (w : World) (hx : VarsR w A l (partL vs us l)) (hy : Ints w V l (pickL xs us l)) (hl : us.length = l) (hk : KeyOk vs xs us n) :
    Calls Tryz.prog 101 #[.slice A l c, .slice V l d] w fun e w' => e = .returned (.int .i64 (keyV vs xs us)) ∧ Below w.heap.size w w' := by
  have hl' := Lib.hid hl
  have hl6 : l ≤ 6 := by have := hk.six; rw [hl] at this; exact this
  clear hl
  have HX := Lib.hid hx
  have HY := Lib.hid hy
  clear hx hy
  go_enter Tryz.func101, Tryz.ntmps101
  go_wp2
  go_loopw [5, 10] (fun a i wr => ∃ j : Nat, j ≤ l ∧ i = .int .i64 j ∧ a = .int .i64 (keyN vs xs us j) ∧ Below w.heap.size w wr) (fun _ i _ => l - (intOf i).toNat)
  case atStart => exact ⟨0, Nat.zero_le _, rfl, rfl, Below.refl _ _⟩
  case round =>
    obtain ⟨j, hj, rfl, rfl, hbw⟩ := hrel
    by_cases hlt : j < l
    · have hju : j < us.length := by rw [hl'.out]; exact hlt
      obtain ⟨hs1, hs2⟩ := hk.step hju
      have ha := hk.at_ hju
      obtain ⟨asv, rfl, hcn, hcs⟩ := (HX.out.below hbw).at_ hlt
      obtain ⟨av, rfl, hcv⟩ := (HY.out.below hbw).at_ hlt
      rw [partL_at hlt] at hcs
      rw [pickL_at hlt] at hcv
      have R := Lib.hid (show keyN vs xs us j * vL vs (ix us j) + xs[ix us j]?.getD 0 = keyN vs xs us (j + 1) from rfl)
      generalize vL vs (ix us j) = L at *
      generalize xs[ix us j]?.getD 0 = v at *
      generalize keyN vs xs us j = a at *
      generalize vN (partL vs us l) j = s at *
      have hb2 := hbw.alloc hbw.size (.cells #[.string s, .int .i64 L] 105)
      have ld := block_lt_of_cell hcv
      have hcv2 := ((below_new wr (.cells #[.string s, .int .i64 L] 105)).cell ld).trans hcv
      have HB := Lib.hid hb2
      obtain ⟨p, hp⟩ : ∃ p, a * L = p := ⟨_, rfl⟩
      rw [hp] at hs2 R
      have hw1 : IntKind.i64.wrap (a * L) = p := by rw [hp]; exact IntWalk.i64_in _ (by omega)
      have hw2 : IntKind.i64.wrap (p + v) = p + v := IntWalk.i64_in _ (by omega)
      clear hbw hju hp hb2
      go_wp2
      go_quiet (fail)
      clear hw1 hw2
      go_wp2
      rw [R.out]
      go_roundw
      case rel => exact ⟨j + 1, by omega, by go_num, rfl, below_drewN HB.out _⟩
      case measure => simp [intOf]; omega
    · obtain rfl : j = l := by omega
      have R := Lib.hid (show keyN vs xs us j = keyV vs xs us by unfold keyV; rw [hl'.out])
      go_wp2
      go_ret
      exact ⟨ret_int R.out, hbw⟩

set_option maxHeartbeats 1000000 in
theorem swKey_any (A V U : Option Addr) (n c m d l k' : Nat) (vs : List (ByteArray × Int)) (xs us : List Int) (w : World) (hx : SchR w A n c vs) (hy : IntR w V m xs) (hu : IntR w U l us) (hk : KeyOk vs xs us n) :
    Calls Tryz.prog 72 #[.slice A n c, .slice V m d, .slice U l k'] w fun e w' => e = .returned (.int .i64 (keyV vs xs us)) ∧ Below w.heap.size w w' := by
  have hl := Lib.hid hu.len
  have hm := Lib.hid (show m = n by have := (valsB_of hk.v).1; rw [hy.len, hx.len] at this; exact this)
  go_enter Tryz.func72, Tryz.ntmps72
  go_wp2_with fail
  refine (sPart_any _ _ n _ l _ vs us _ hx hu hk.part).mono ?_
  rintro e w1 ⟨A1, c1, rfl, o1, b1⟩
  have hy1 := hy.below b1
  have hu1 := hu.below b1
  clear hx hy hu
  go_wp2_with fail
  refine (sPick_any _ _ m _ l _ xs us _ hy1 hu1 (fun k hkl => by rw [hm.out]; exact hk.ix_lt (by rw [hl.out]; exact hkl))).mono ?_
  rintro e w2 ⟨A2, c2, rfl, o2, b2⟩
  have o1' := o1.below b2
  have B2 := Lib.hid (b1.trans (b2.mono b1.size))
  clear o1 b1 b2 hy1 hu1
  go_wp2_with fail
  refine (sIndex_any _ _ n _ l _ vs xs us _ o1'.vars o2.ints hl.out hk).mono ?_
  rintro e w3 ⟨rfl, b3⟩
  have B3 := Lib.hid (B2.out.trans (b3.mono B2.out.size))
  clear o1' o2 b3 B2
  go_wp2
  go_ret
  exact ⟨rfl, B3.out⟩
end
end Go.Proofs.YtahbcnclhohnaaaGreat
