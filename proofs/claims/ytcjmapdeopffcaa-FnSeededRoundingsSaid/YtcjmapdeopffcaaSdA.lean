/- What a rounding is; the seeded one is one. -/
import Derived.Test.YtcjmapdeopffcaaMyL
namespace Go.Proofs.Ytcjmapdeopffcaa
open Go.RowKit Flo
set_option linter.unusedVariables false

/-- A multiple of the base near a number. -/
def Near (b v y : Int) : Prop := y.tmod b = 0 ∧ v - b < y ∧ y < v + b
/-- A list of lists as a function of two indices. -/
def fnL (L : Nat → List Int) (i j : Nat) : Int := (L i)[j]?.getD 0
/-- A rounding of a matrix. -/
structure IsRnd (n m : Nat) (b : Int) (x : Nat → Nat → Int) (N : Nat) (L : Nat → List Int) (rs cs : List Int) (t : Int) : Prop where
  hn : N = n
  sh : ∀ i, i < n → (L i).length = m
  rl : rs.length = n
  cl : cs.length = m
  cell : ∀ i, i < n → ∀ j, j < m → Near b (x i j) (fnL L i j)
  er : rs = lst n (rowS m (fnL L))
  ec : cs = lst m (colS n (fnL L))
  tt : t = totS n m (fnL L)
  nr : ∀ i, i < n → Near b (rowS m x i) (rs[i]?.getD 0)
  nc : ∀ j, j < m → Near b (colS n x j) (cs[j]?.getD 0)
  nt : Near b (totS n m x) t
section
variable {b v q : Int} {n m : Nat} {x z : Nat → Nat → Int}
theorem near_of (hb : 2 ≤ b) (hv : 0 ≤ v) (h1 : dnV b v ≤ q) (h2 : q ≤ upV b v) : Near b v (q * b) := by
  obtain ⟨_, _, _, _, _, h6, h7⟩ := dnV_bd hb hv
  have h8 : b * dnV b v ≤ b * q := Int.mul_le_mul_of_nonneg_left h1 (by omega)
  have h9 : b * q ≤ b * upV b v := Int.mul_le_mul_of_nonneg_left h2 (by omega)
  refine ⟨Int.mul_tmod_left q b, ?_, ?_⟩
  · rw [Int.mul_comm q b]; omega
  · rw [Int.mul_comm q b]; omega
theorem sm_mulR {f : Nat → Int} {c : Int} : sm n (fun k => f k * c) = sm n f * c := by
  induction n with
  | zero => simp [sm]
  | succ n ih => simp only [sm]; rw [ih, Int.add_mul]
theorem tot_cols (n m : Nat) (x : Nat → Nat → Int) : sm m (colS n x) = totS n m x := (sm_swap (n := n) (m := m) (f := x)).symm
theorem near_nn (hb : 2 ≤ b) (hv : 0 ≤ v) (h : Near b v q) : 0 ≤ q := by
  obtain ⟨h1, h2, _⟩ := h
  apply Int.not_lt.1
  intro h0
  have h3 : (-q).tmod b = 0 := by rw [Int.neg_tmod, h1]; rfl
  have h4 : (-q).tmod b = -q := Int.tmod_eq_of_lt (by omega) (by omega)
  omega
/-- A flow of the network of a matrix, times the base, is a rounding. -/
theorem flow_near (hM : MxB n m b x) (hz : (netOf n m b x).Flow z) : (∀ i, i < n → ∀ j, j < m → Near b (x i j) (z i j * b)) ∧ (∀ i, i < n → Near b (rowS m x i) (rowS m (fun i j => z i j * b) i)) ∧ (∀ j, j < m → Near b (colS n x j) (colS n (fun i j => z i j * b) j)) ∧ Near b (totS n m x) (totS n m (fun i j => z i j * b)) := by
  have hb := hM.b2
  have hx0 : ∀ i, i < n → ∀ j, j < m → 0 ≤ x i j := fun i hi j hj => (hM.x i j hi hj).1
  have hr0 : ∀ i, i < n → 0 ≤ rowS m x i := fun i hi => sm_nonneg fun j hj => hx0 i hi j hj
  have hc0 : ∀ j, j < m → 0 ≤ colS n x j := fun j hj => sm_nonneg fun i hi => hx0 i hi j hj
  have ht0 : 0 ≤ totS n m x := sm_nonneg hr0
  have eRow : ∀ i, rowS m (fun i j => z i j * b) i = rowS m z i * b := fun i => sm_mulR
  have eCol : ∀ j, colS n (fun i j => z i j * b) j = colS n z j * b := fun j => sm_mulR
  have eTot : totS n m (fun i j => z i j * b) = totS n m z * b := by
    unfold totS
    rw [← sm_mulR]
    exact sm_congr fun i _ => eRow i
  have lo_ : ∀ i j, i < n + 1 → j < m + 1 → (if i < n ∧ j < m then dnV b (x i j) else 0) ≤ z i j := fun i j hi hj => hz.ge i j hi hj
  have hi_ : ∀ i j, i < n + 1 → j < m + 1 → z i j ≤ (if i < n ∧ j < m then upV b (x i j) else if i < n then upV b (rowS m x i) - dnV b (rowS m x i) else if j < m then upV b (colS n x j) - dnV b (colS n x j) else upV b (totS n m x) - dnV b (totS n m x)) := fun i j hi hj => hz.le i j hi hj
  have row_ : ∀ i, i < n + 1 → sm m (z i) + z i m = (if i < n then upV b (rowS m x i) else sm m (fun j => upV b (colS n x j)) - dnV b (totS n m x)) := fun i hi => hz.row i hi
  have col_ : ∀ j, j < m + 1 → sm n (fun i => z i j) + z n j = (if j < m then upV b (colS n x j) else sm n (fun i => upV b (rowS m x i)) - dnV b (totS n m x)) := fun j hj => hz.col j hj
  refine ⟨fun i hi j hj => ?_, fun i hi => ?_, fun j hj => ?_, ?_⟩
  · have h1 := lo_ i j (by omega) (by omega)
    have h2 := hi_ i j (by omega) (by omega)
    rw [if_pos ⟨hi, hj⟩] at h1 h2
    exact near_of hb (hx0 i hi j hj) h1 h2
  · rw [eRow]
    have h1 := lo_ i m (by omega) (by omega)
    have h2 := hi_ i m (by omega) (by omega)
    have h3 := row_ i (by omega)
    rw [if_neg (by omega)] at h1 h2
    rw [if_pos hi] at h2 h3
    exact near_of hb (hr0 i hi) (show dnV b (rowS m x i) ≤ sm m (z i) by omega) (show sm m (z i) ≤ upV b (rowS m x i) by omega)
  · rw [eCol]
    have h1 := lo_ n j (by omega) (by omega)
    have h2 := hi_ n j (by omega) (by omega)
    have h3 := col_ j (by omega)
    rw [if_neg (by omega)] at h1 h2
    rw [if_neg (by omega), if_pos hj] at h2
    rw [if_pos hj] at h3
    exact near_of hb (hc0 j hj) (show dnV b (colS n x j) ≤ sm n (fun i => z i j) by omega) (show sm n (fun i => z i j) ≤ upV b (colS n x j) by omega)
  · rw [eTot]
    have h1 := lo_ n m (by omega) (by omega)
    have h2 := hi_ n m (by omega) (by omega)
    have h3 := row_ n (by omega)
    rw [if_neg (by omega)] at h1 h2 h3
    rw [if_neg (by omega), if_neg (by omega)] at h2
    have h4 : sm m (fun j => sm n (fun i => z i j) + z n j) = sm m (fun j => upV b (colS n x j)) := sm_congr fun j hj => by
      have h := col_ j (by omega)
      rwa [if_pos hj] at h
    rw [sm_add] at h4
    have h5 : sm m (fun j => sm n (fun i => z i j)) = totS n m z := tot_cols n m z
    have h6 : sm m (fun j => z n j) = sm m (z n) := rfl
    exact near_of hb ht0 (by omega) (by omega)
end
section
variable {t : Net} {i j : Nat}
theorem min_ex (h : t.Feas) (hi : i < t.n) (hj : j < t.m) : ∃ v, t.IsMin i j v := by
  have key : ∀ k : Nat, ∀ x, t.Flow x → (x i j - t.lo i j).toNat ≤ k → ∃ v, t.IsMin i j v := by
    intro k
    induction k with
    | zero =>
      intro x hx hk
      have h1 := hx.ge i j hi hj
      exact ⟨x i j, ⟨⟨x, hx, rfl⟩, fun y hy => by have := hy.ge i j hi hj; omega⟩⟩
    | succ k ih =>
      intro x hx hk
      by_cases hm : ∀ y, t.Flow y → x i j ≤ y i j
      · exact ⟨x i j, ⟨⟨x, hx, rfl⟩, hm⟩⟩
      · obtain ⟨y, hy⟩ := Classical.not_forall.1 hm
        obtain ⟨h1, h2⟩ := Classical.not_imp.1 hy
        have h3 := h1.ge i j hi hj
        have h4 := hx.ge i j hi hj
        exact ih y h1 (by omega)
  obtain ⟨x, hx⟩ := h
  exact key _ x hx (Nat.le_refl _)
theorem max_ex (h : t.Feas) (hi : i < t.n) (hj : j < t.m) : ∃ v, t.IsMax i j v := by
  have key : ∀ k : Nat, ∀ x, t.Flow x → (t.hi i j - x i j).toNat ≤ k → ∃ v, t.IsMax i j v := by
    intro k
    induction k with
    | zero =>
      intro x hx hk
      have h1 := hx.le i j hi hj
      exact ⟨x i j, ⟨⟨x, hx, rfl⟩, fun y hy => by have := hy.le i j hi hj; omega⟩⟩
    | succ k ih =>
      intro x hx hk
      by_cases hm : ∀ y, t.Flow y → y i j ≤ x i j
      · exact ⟨x i j, ⟨⟨x, hx, rfl⟩, hm⟩⟩
      · obtain ⟨y, hy⟩ := Classical.not_forall.1 hm
        obtain ⟨h1, h2⟩ := Classical.not_imp.1 hy
        have h3 := h1.le i j hi hj
        have h4 := hx.le i j hi hj
        exact ih y h1 (by omega)
  obtain ⟨x, hx⟩ := h
  exact key _ x hx (Nat.le_refl _)
variable {b sd v : Int} {k q n m : Nat} {s s' : Net × Int} {x : Nat → Nat → Int}
theorem RndI.one (h : RndI t s k q m) (hk : k < t.n) (hq : q < t.m) (hqm : q < m) (hs : rndStep b sd v k q s = some s') : RndI t s' k (q + 1) m := by
  unfold rndStep at hs
  by_cases hF : s.1.Feas
  · obtain ⟨lo, h1⟩ := min_ex hF (show k < s.1.n by rw [h.sub.n]; exact hk) (show q < s.1.m by rw [h.sub.m]; exact hq)
    obtain ⟨hi, h2⟩ := max_ex hF (show k < s.1.n by rw [h.sub.n]; exact hk) (show q < s.1.m by rw [h.sub.m]; exact hq)
    rw [if_pos hF, mnV_of h1, mxV_of h2] at hs
    by_cases hlt : lo < hi
    · rw [if_pos hlt] at hs
      cases hb : belowM sd b s.2 with
      | none => rw [hb] at hs; cases hs
      | some p =>
        obtain ⟨u, a⟩ := p
        rw [hb] at hs
        obtain ⟨_, _, ha0, ha1⟩ := belowM_bd hb h.a0 h.a1
        obtain rfl := Option.some.inj hs
        refine h.step hk hq hqm hF ?_ ha0 ha1
        split
        · exact h2.at_
        · exact h1.at_
    · rw [if_neg hlt] at hs
      obtain rfl := Option.some.inj hs
      exact h.step hk hq hqm hF h1.at_ h.a0 h.a1
  · rw [if_neg hF] at hs; cases hs
theorem RndI.rowAll (hk : k < t.n) (hm : m ≤ t.m) {o : Option (Net × Int)} (ho : ∀ s, o = some s → RndI t s k 0 m) : ∀ q, q ≤ m → ∀ s, rndRow b sd x k o q = some s → RndI t s k q m := by
  intro q
  induction q with
  | zero => exact fun _ s h => ho s h
  | succ q ih =>
    intro hq s h
    rw [rndRow_succ] at h
    cases hr : rndRow b sd x k o q with
    | none => rw [hr] at h; cases h
    | some s0 =>
      rw [hr] at h
      exact (ih (by omega) s0 hr).one hk (by omega) (by omega) h
theorem RndI.all (hB : NetB t) (hm1 : 0 < m) (hn : n ≤ t.n) (hm : m ≤ t.m) : ∀ k, k ≤ n → ∀ s, rndRows b sd m x t k = some s → RndI t s k 0 m := by
  intro k
  induction k with
  | zero =>
    intro _ s h
    obtain rfl := Option.some.inj h
    exact ⟨SubN.refl hB, (fun h => by omega), (fun i j h => by omega), Int.le_refl _, by show (0 : Int) ≤ 1000000; omega⟩
  | succ k ih =>
    intro hk s h
    exact (RndI.rowAll (b := b) (sd := sd) (x := x) (by omega) hm (fun s0 h0 => ih (by omega) s0 h0) m (Nat.le_refl _) s h).row hm1
end
/-- The seeded rounding is a rounding. -/
theorem rnd_near {n m : Nat} {b sd : Int} {x Y : Nat → Nat → Int} (hM : MxB n m b x) (h : rndO n m b sd x = some Y) : (∀ i, i < n → ∀ j, j < m → Near b (x i j) (Y i j)) ∧ (∀ i, i < n → Near b (rowS m x i) (rowS m Y i)) ∧ (∀ j, j < m → Near b (colS n x j) (colS n Y j)) ∧ Near b (totS n m x) (totS n m Y) := by
  unfold rndO at h
  cases hr : rndRows b sd m x (netOf n m b x) n with
  | none => rw [hr] at h; cases h
  | some s =>
    rw [hr] at h
    have hI := RndI.all hM.netB (by have := hM.m1; omega) (Nat.le_succ n) (Nat.le_succ m) n (Nat.le_refl _) s hr
    obtain ⟨z, hz⟩ := hI.feas (.inl (by have := hM.n1; omega))
    have hY : Y = fun i j => s.1.lo i j * b := (Option.some.inj h).symm
    have he : ∀ i, i < n → ∀ j, j < m → z i j = s.1.lo i j := fun i hi j hj => by
      have h1 := hz.ge i j (by rw [hI.sub.n]; exact Nat.lt_succ_of_lt hi) (by rw [hI.sub.m]; exact Nat.lt_succ_of_lt hj)
      have h2 := hz.le i j (by rw [hI.sub.n]; exact Nat.lt_succ_of_lt hi) (by rw [hI.sub.m]; exact Nat.lt_succ_of_lt hj)
      have h3 := hI.fix i j (.inl ⟨hi, hj⟩)
      omega
    have hf := flow_near hM (hI.sub.flow hz)
    have hc : ∀ i j, i < n → j < m → (fun i j => z i j * b) i j = Y i j := fun i j hi hj => by rw [hY]; show z i j * b = s.1.lo i j * b; rw [he i hi j hj]
    refine ⟨fun i hi j hj => ?_, fun i hi => ?_, fun j hj => ?_, ?_⟩
    · rw [← hc i j hi hj]; exact hf.1 i hi j hj
    · rw [← rowS_fn (x := fun i j => z i j * b) (y := Y) fun j hj => hc i j hi hj]; exact hf.2.1 i hi
    · rw [← colS_fn (x := fun i j => z i j * b) (y := Y) fun i hi => hc i j hi hj]; exact hf.2.2.1 j hj
    · rw [← totS_fn (x := fun i j => z i j * b) (y := Y) hc]; exact hf.2.2.2
end Go.Proofs.Ytcjmapdeopffcaa
