/- Several small texts in one: FloP, FloQ, FloR, FloS, FloT. -/
import Derived.Lib.Hide
namespace Go.Proofs.Ytcjmapdeopffcaa

section
namespace Flo

/-- The sum of the first values of a function. -/
def sm : Nat → (Nat → Int) → Int
  | 0, _ => 0
  | n + 1, f => sm n f + f n
section
variable {n m : Nat} {f g : Nat → Int}
theorem sm_congr (h : ∀ k, k < n → f k = g k) : sm n f = sm n g := by
  induction n with
  | zero => rfl
  | succ n ih => simp only [sm]; rw [ih (fun k hk => h k (by omega)), h n (by omega)]
theorem sm_add : sm n (fun k => f k + g k) = sm n f + sm n g := by
  induction n with
  | zero => rfl
  | succ n ih => simp only [sm]; rw [ih]; omega
theorem sm_sub : sm n (fun k => f k - g k) = sm n f - sm n g := by
  induction n with
  | zero => rfl
  | succ n ih => simp only [sm]; rw [ih]; omega
theorem sm_neg : sm n (fun k => - f k) = - sm n f := by
  induction n with
  | zero => rfl
  | succ n ih => simp only [sm]; rw [ih]; omega
theorem sm_zero (h : ∀ k, k < n → f k = 0) : sm n f = 0 := by
  induction n with
  | zero => rfl
  | succ n ih => simp only [sm]; rw [ih (fun k hk => h k (by omega)), h n (by omega)]; rfl
theorem sm_le (h : ∀ k, k < n → f k ≤ g k) : sm n f ≤ sm n g := by
  induction n with
  | zero => exact Int.le_refl _
  | succ n ih =>
    simp only [sm]
    have h1 := ih (fun k hk => h k (by omega))
    have h2 := h n (by omega)
    omega
theorem sm_nonneg (h : ∀ k, k < n → 0 ≤ f k) : 0 ≤ sm n f := by
  have h1 := sm_le (f := fun _ => 0) (g := f) h
  rw [sm_zero (f := fun _ => 0) (fun _ _ => rfl)] at h1
  exact h1
theorem sm_le_one (h : ∀ k, k < n → 0 ≤ f k) {j : Nat} (hj : j < n) : f j ≤ sm n f := by
  induction n with
  | zero => omega
  | succ n ih =>
    simp only [sm]
    have h1 := h n (by omega)
    rcases Nat.lt_or_ge j n with h2 | h2
    · have h3 := ih (fun k hk => h k (by omega)) h2; omega
    · obtain rfl : j = n := by omega
      have h3 := sm_nonneg (n := j) (f := f) (fun k hk => h k (by omega)); omega
/-- Where every value is at most another and the sums agree, all agree. -/
theorem sm_tight (h : ∀ k, k < n → f k ≤ g k) (hs : sm n g ≤ sm n f) {j : Nat} (hj : j < n) : f j = g j := by
  have h1 := sm_le_one (n := n) (f := fun k => g k - f k) (fun k hk => by have := h k hk; omega) hj
  rw [sm_sub] at h1
  have h2 := h j hj
  have h3 : 0 ≤ g j - f j := by omega
  have h4 : g j - f j ≤ 0 := by omega
  omega
theorem sm_split : sm (n + m) f = sm n f + sm m (fun k => f (n + k)) := by
  induction m with
  | zero => simp [sm]
  | succ m ih => rw [← Nat.add_assoc]; simp only [sm]; rw [ih]; omega
theorem sm_swap {f : Nat → Nat → Int} : sm n (fun i => sm m (fun j => f i j)) = sm m (fun j => sm n (fun i => f i j)) := by
  induction n with
  | zero => simp only [sm]; exact (sm_zero (fun _ _ => rfl)).symm
  | succ n ih => simp only [sm]; rw [ih, ← sm_add]
theorem sm_one {j : Nat} {a : Int} (hj : j < n) : sm n (fun k => if k = j then a else 0) = a := by
  induction n with
  | zero => omega
  | succ n ih =>
    simp only [sm]
    rcases Nat.lt_or_ge j n with h2 | h2
    · rw [ih h2, if_neg (by omega)]; omega
    · obtain rfl : j = n := by omega
      rw [if_pos rfl, sm_zero (fun k hk => if_neg (by omega))]; omega
/-- All but one are nothing. -/
theorem sm_only {j : Nat} (hj : j < n) (h : ∀ k, k < n → k ≠ j → f k = 0) : sm n f = f j := by
  rw [sm_congr (g := fun k => if k = j then f j else 0) (fun k hk => by by_cases h1 : k = j <;> simp [h1, h k hk]), sm_one hj]
end

/-- Of what flows between nodes with a sign, the part within a set is nothing; what leaves the set is what its nodes send. -/
theorem cut_le {K : Nat} {g : Nat → Nat → Int} {S : Nat → Bool} (ha : ∀ u v, u < K → v < K → g u v = - g v u) (hc : ∀ u v, u < K → v < K → S u = true → S v = false → g u v ≤ 0) :
    sm K (fun u => if S u then sm K (g u) else 0) ≤ 0 := by
  have h0 : sm K (fun u => sm K (fun v => if S u ∧ S v then g u v else 0)) = 0 := by
    have h1 := sm_swap (n := K) (m := K) (f := fun u v => if S u ∧ S v then g u v else 0)
    have h2 : sm K (fun v => sm K (fun u => if S u ∧ S v then g u v else 0)) = - sm K (fun u => sm K (fun v => if S u ∧ S v then g u v else 0)) := by
      rw [← sm_neg]
      refine sm_congr fun v hv => ?_
      rw [← sm_neg]
      refine sm_congr fun u hu => ?_
      by_cases h3 : S u = true <;> by_cases h4 : S v = true <;> simp [h3, h4, ha u v hu hv]
    omega
  have h1 : sm K (fun u => if S u then sm K (g u) else 0) = sm K (fun u => sm K (fun v => if S u ∧ S v then g u v else 0)) + sm K (fun u => sm K (fun v => if S u = true ∧ S v = false then g u v else 0)) := by
    rw [← sm_add]
    refine sm_congr fun u hu => ?_
    rw [← sm_add]
    by_cases h3 : S u = true
    · rw [if_pos h3]
      refine sm_congr fun v hv => ?_
      by_cases h4 : S v = true <;> simp [h3, h4]
    · rw [if_neg h3]
      refine (sm_zero fun v hv => ?_).symm
      simp [h3]
  rw [h1, h0]
  have h2 : sm K (fun u => sm K (fun v => if S u = true ∧ S v = false then g u v else 0)) ≤ sm K (fun u => sm K (fun _ => 0)) := by
    refine sm_le fun u hu => sm_le fun v hv => ?_
    by_cases h3 : S u = true ∧ S v = false
    · rw [if_pos h3]; exact hc u v hu hv h3.1 h3.2
    · rw [if_neg h3]; exact Int.le_refl _
  have h3 : sm K (fun _ => sm K (fun _ => 0)) = 0 := sm_zero fun _ _ => sm_zero fun _ _ => rfl
  omega

/-- The room between nodes after an amount was sent from one to another. -/
structure Sent (K : Nat) (r r' : Nat → Nat → Int) (a b : Nat) (s : Int) : Prop where
  nn : ∀ u v, u < K → v < K → 0 ≤ r' u v
  sym : ∀ u v, u < K → v < K → r' u v + r' v u = r u v + r v u
  ex : ∀ u, u < K → sm K (fun v => r u v - r' u v) = (if u = a then s else 0) - (if u = b then s else 0)
/-- One edge more. -/
def edge (r : Nat → Nat → Int) (u v : Nat) (s : Int) : Nat → Nat → Int := fun a b => if a = u ∧ b = v then r a b - s else if a = v ∧ b = u then r a b + s else r a b
section
variable {K : Nat} {r r' r2 : Nat → Nat → Int} {a b u v : Nat} {s s2 : Int}
theorem Sent.nil (h : ∀ u v, u < K → v < K → 0 ≤ r u v) : Sent K r r a a s :=
  ⟨h, fun _ _ _ _ => rfl, fun u _ => by rw [sm_zero (fun k _ => by omega)]; by_cases h : u = a <;> simp [h]⟩
theorem Sent.none (h : ∀ u v, u < K → v < K → 0 ≤ r u v) : Sent K r r a b 0 :=
  ⟨h, fun _ _ _ _ => rfl, fun u _ => by rw [sm_zero (fun k _ => by omega)]; simp⟩
theorem Sent.trans (h : Sent K r r' a b s) (h2 : Sent K r' r2 a b s2) : Sent K r r2 a b (s + s2) := by
  refine ⟨h2.nn, fun u v hu hv => by rw [h2.sym u v hu hv, h.sym u v hu hv], fun u hu => ?_⟩
  have h3 := h.ex u hu
  have h4 := h2.ex u hu
  have h5 : sm K (fun v => r u v - r2 u v) = sm K (fun v => r u v - r' u v) + sm K (fun v => r' u v - r2 u v) := by
    rw [← sm_add]; exact sm_congr fun k _ => by omega
  rw [h5, h3, h4]
  by_cases h6 : u = a <;> by_cases h7 : u = b <;> simp [h6, h7] <;> omega
theorem Sent.step (h : Sent K r r' v b s) (hu : u < K) (hv : v < K) (hne : u ≠ v) (h0 : 0 ≤ s) (hs : s ≤ r' u v) : Sent K r (edge r' u v s) u b s := by
  refine ⟨fun x y hx hy => ?_, fun x y hx hy => ?_, fun x hx => ?_⟩
  · have h1 := h.nn x y hx hy
    unfold edge
    by_cases h2 : x = u ∧ y = v
    · rw [if_pos h2, h2.1, h2.2]; omega
    · rw [if_neg h2]; split <;> omega
  · have h1 := h.sym x y hx hy
    unfold edge
    by_cases h2 : x = u ∧ y = v
    · have h3 : ¬ (y = u ∧ x = v) := fun h4 => hne (h2.1.symm.trans h4.2)
      rw [if_pos h2, if_neg h3, if_pos ⟨h2.2, h2.1⟩]; omega
    · by_cases h3 : x = v ∧ y = u
      · rw [if_neg h2, if_pos h3, if_pos ⟨h3.2, h3.1⟩]; omega
      · rw [if_neg h2, if_neg h3, if_neg (fun h4 => h3 ⟨h4.2, h4.1⟩), if_neg (fun h4 => h2 ⟨h4.2, h4.1⟩)]; omega
  · have h1 := h.ex x hx
    have h2 : sm K (fun y => r x y - edge r' u v s x y) = sm K (fun y => r x y - r' x y) + ((if x = u then s else 0) - (if x = v then s else 0)) := by
      have h3 : sm K (fun y => (if x = u ∧ y = v then s else 0) - (if x = v ∧ y = u then s else 0)) = (if x = u then s else 0) - (if x = v then s else 0) := by
        rw [sm_sub]
        congr 1
        · by_cases h4 : x = u
          · simp only [h4, true_and, if_true]; exact sm_one hv
          · simp only [h4, false_and, if_false]; exact sm_zero fun _ _ => rfl
        · by_cases h4 : x = v
          · simp only [h4, true_and, if_true]; exact sm_one hu
          · simp only [h4, false_and, if_false]; exact sm_zero fun _ _ => rfl
      rw [← h3, ← sm_add]
      refine sm_congr fun y _ => ?_
      unfold edge
      by_cases h4 : x = u ∧ y = v
      · have h5 : ¬ (x = v ∧ y = u) := fun h6 => hne (h4.1.symm.trans h6.1)
        rw [if_pos h4, if_pos h4, if_neg h5]; omega
      · by_cases h5 : x = v ∧ y = u
        · rw [if_neg h4, if_pos h5, if_neg h4, if_pos h5]; omega
        · rw [if_neg h4, if_neg h5, if_neg h4, if_neg h5]; omega
    rw [h2, h1]
    omega
/-- What is sent is the most, once a set that holds the beginning and not the end has no room left. -/
theorem Sent.most (h : Sent K r r' a b s) (hK : a < K) (hab : a ≠ b) {S : Nat → Bool} (ha : S a = true) (hb : S b = false) (hc : ∀ u v, u < K → v < K → S u = true → S v = false → r' u v ≤ 0)
    {g : Nat → Nat → Int} (hg : ∀ u v, u < K → v < K → g u v = - g v u) (hr : ∀ u v, u < K → v < K → g u v ≤ r u v) (hx : ∀ u, u < K → u ≠ a → u ≠ b → sm K (g u) = 0) : sm K (g a) ≤ s := by
  have h1 := cut_le (K := K) (g := fun u v => g u v - (r u v - r' u v)) (S := S) (fun u v hu hv => by have h2 := h.sym u v hu hv; have h3 := hg u v hu hv; omega) (fun u v hu hv h2 h3 => by have h4 := hc u v hu hv h2 h3; have h5 := hr u v hu hv; omega)
  have h2 : sm K (fun u => if S u then sm K (fun v => g u v - (r u v - r' u v)) else 0) = sm K (g a) - s := by
    rw [sm_only hK (f := fun u => if S u then sm K (fun v => g u v - (r u v - r' u v)) else 0) (fun k hk hka => ?_)]
    · simp only [ha, if_true]
      rw [sm_sub, h.ex a hK, if_pos rfl, if_neg hab]; omega
    · by_cases h3 : S k = true
      · have h4 : k ≠ b := fun e => by rw [e, hb] at h3; cases h3
        simp only [h3, if_true]
        rw [sm_sub, h.ex k hk, if_neg hka, if_neg h4, hx k hk hka h4]; omega
      · simp [h3]
  omega
end
end Flo
end

section
namespace Flo

/-- A network of rows and columns with bounds. -/
structure Net where
  n : Nat
  m : Nat
  R : Nat → Int
  C : Nat → Int
  lo : Nat → Nat → Int
  hi : Nat → Nat → Int
structure Net.Flow (t : Net) (x : Nat → Nat → Int) : Prop where
  ge : ∀ i j, i < t.n → j < t.m → t.lo i j ≤ x i j
  le : ∀ i j, i < t.n → j < t.m → x i j ≤ t.hi i j
  row : ∀ i, i < t.n → sm t.m (x i) = t.R i
  col : ∀ j, j < t.m → sm t.n (fun i => x i j) = t.C j
def Net.Feas (t : Net) : Prop := ∃ x, t.Flow x
/-- The least and the greatest value of an element. -/
structure Net.IsMin (t : Net) (i j : Nat) (v : Int) : Prop where
  at_ : ∃ x, t.Flow x ∧ x i j = v
  le : ∀ x, t.Flow x → v ≤ x i j
structure Net.IsMax (t : Net) (i j : Nat) (v : Int) : Prop where
  at_ : ∃ x, t.Flow x ∧ x i j = v
  ge : ∀ x, t.Flow x → x i j ≤ v
theorem Net.IsMin.one {t : Net} {i j : Nat} {a b : Int} (h : t.IsMin i j a) (h2 : t.IsMin i j b) : a = b := by
  obtain ⟨x, hx, rfl⟩ := h.at_
  obtain ⟨y, hy, rfl⟩ := h2.at_
  have := h.le y hy
  have := h2.le x hx
  omega
theorem Net.IsMax.one {t : Net} {i j : Nat} {a b : Int} (h : t.IsMax i j a) (h2 : t.IsMax i j b) : a = b := by
  obtain ⟨x, hx, rfl⟩ := h.at_
  obtain ⟨y, hy, rfl⟩ := h2.at_
  have := h.ge y hy
  have := h2.ge x hx
  omega

/-- The flow between nodes of a matrix: rows, then columns. -/
def bip (n : Nat) (d : Nat → Nat → Int) (u v : Nat) : Int := if u < n then (if n ≤ v then d u (v - n) else 0) else if v < n then - d v (u - n) else 0
section
variable {n m : Nat} {d e : Nat → Nat → Int} {u v i j : Nat}
theorem bip_anti : bip n d u v = - bip n d v u := by
  unfold bip
  by_cases h1 : u < n <;> by_cases h2 : v < n
  · rw [if_pos h1, if_neg (by omega), if_pos h2, if_neg (by omega)]; rfl
  · rw [if_pos h1, if_pos (by omega), if_neg h2, if_pos h1]; omega
  · rw [if_neg h1, if_pos h2, if_pos h2, if_pos (by omega)]
  · rw [if_neg h1, if_neg h2, if_neg h2, if_neg h1]; rfl
theorem bip_ij (hi : i < n) : bip n d i (n + j) = d i j := by unfold bip; rw [if_pos hi, if_pos (by omega), Nat.add_sub_cancel_left]
theorem bip_ji (hi : i < n) : bip n d (n + j) i = - d i j := by rw [bip_anti, bip_ij hi]
theorem bip_ii (hi : u < n) (hj : v < n) : bip n d u v = 0 := by unfold bip; rw [if_pos hi, if_neg (by omega)]
theorem bip_jj (hi : n ≤ u) (hj : n ≤ v) : bip n d u v = 0 := by unfold bip; rw [if_neg (by omega), if_neg (by omega)]
theorem bip_row (hi : i < n) : sm (n + m) (bip n d i) = sm m (d i) := by
  rw [sm_split, sm_zero (fun k hk => bip_ii hi hk), sm_congr (g := d i) (fun k _ => bip_ij hi)]; omega
theorem bip_col : sm (n + m) (bip n d (n + j)) = - sm n (fun i => d i j) := by
  rw [sm_split, sm_zero (n := m) (fun k hk => bip_jj (by omega) (by omega)), ← sm_neg, sm_congr (n := n) (fun k hk => bip_ji hk)]; omega
end

/-- What is sent nowhere, where there was no room. -/
theorem Sent.zero {K : Nat} {r r' : Nat → Nat → Int} {a b u v : Nat} {s : Int} (h : Sent K r r' a b s) (hu : u < K) (hv : v < K) (h1 : r u v = 0) (h2 : r v u = 0) : r' u v = 0 := by
  have h3 := h.sym u v hu hv
  have h4 := h.nn u v hu hv
  have h5 := h.nn v u hv hu
  omega
theorem Sent.bd {K : Nat} {r r' : Nat → Nat → Int} {a b u v : Nat} {s : Int} (h : Sent K r r' a b s) (hu : u < K) (hv : v < K) : r' u v ≤ r u v + r v u := by
  have h3 := h.sym u v hu hv
  have h5 := h.nn v u hv hu
  omega

/-- What is left between the rows and columns of a network that is to be filled; two nodes more. -/
def filR (t : Net) (u v : Nat) : Int :=
  if u < t.n ∧ t.n ≤ v ∧ v < t.n + t.m then t.hi u (v - t.n) - t.lo u (v - t.n)
  else if u = t.n + t.m ∧ v < t.n then t.R v - sm t.m (t.lo v)
  else if t.n ≤ u ∧ u < t.n + t.m ∧ v = t.n + t.m + 1 then t.C (u - t.n) - sm t.n (fun i => t.lo i (u - t.n))
  else 0
section
variable {t : Net} {i j u v : Nat}
theorem filR_ij (hi : i < t.n) (hj : j < t.m) : filR t i (t.n + j) = t.hi i j - t.lo i j := by unfold filR; rw [if_pos (by omega), Nat.add_sub_cancel_left]
theorem filR_s (hi : i < t.n) : filR t (t.n + t.m) i = t.R i - sm t.m (t.lo i) := by unfold filR; rw [if_neg (by omega), if_pos (by omega)]
theorem filR_t (hj : j < t.m) : filR t (t.n + j) (t.n + t.m + 1) = t.C j - sm t.n (fun i => t.lo i j) := by unfold filR; rw [if_neg (by omega), if_neg (by omega), if_pos (by omega), Nat.add_sub_cancel_left]
theorem filR_no (h1 : ¬ (u < t.n ∧ t.n ≤ v ∧ v < t.n + t.m)) (h2 : ¬ (u = t.n + t.m ∧ v < t.n)) (h3 : ¬ (t.n ≤ u ∧ u < t.n + t.m ∧ v = t.n + t.m + 1)) : filR t u v = 0 := by unfold filR; rw [if_neg h1, if_neg h2, if_neg h3]
theorem sm_two {n m : Nat} {f : Nat → Int} : sm (n + m + 2) f = sm n f + sm m (fun j => f (n + j)) + f (n + m) + f (n + m + 1) := by
  simp only [sm]; rw [sm_split]
end

/-- What a flow sends between the nodes of the network that is to be filled. -/
def filG (t : Net) (y : Nat → Nat → Int) (u v : Nat) : Int :=
  if u < t.n + t.m ∧ v < t.n + t.m then bip t.n (fun i j => y i j - t.lo i j) u v
  else if u = t.n + t.m ∧ v < t.n then t.R v - sm t.m (t.lo v)
  else if v = t.n + t.m ∧ u < t.n then - (t.R u - sm t.m (t.lo u))
  else if t.n ≤ u ∧ u < t.n + t.m ∧ v = t.n + t.m + 1 then t.C (u - t.n) - sm t.n (fun i => t.lo i (u - t.n))
  else if t.n ≤ v ∧ v < t.n + t.m ∧ u = t.n + t.m + 1 then - (t.C (v - t.n) - sm t.n (fun i => t.lo i (v - t.n)))
  else 0
section
variable {t : Net} {y : Nat → Nat → Int} {i j u v : Nat}
theorem filG_in (hu : u < t.n + t.m) (hv : v < t.n + t.m) : filG t y u v = bip t.n (fun i j => y i j - t.lo i j) u v := by unfold filG; rw [if_pos ⟨hu, hv⟩]
theorem filG_s (hi : i < t.n) : filG t y (t.n + t.m) i = t.R i - sm t.m (t.lo i) := by unfold filG; rw [if_neg (by omega), if_pos (by omega)]
theorem filG_s' (hi : i < t.n) : filG t y i (t.n + t.m) = - (t.R i - sm t.m (t.lo i)) := by unfold filG; rw [if_neg (by omega), if_neg (by omega), if_pos (by omega)]
theorem filG_t (hj : j < t.m) : filG t y (t.n + j) (t.n + t.m + 1) = t.C j - sm t.n (fun i => t.lo i j) := by unfold filG; rw [if_neg (by omega), if_neg (by omega), if_neg (by omega), if_pos (by omega), Nat.add_sub_cancel_left]
theorem filG_no (h1 : ¬ (u < t.n + t.m ∧ v < t.n + t.m)) (h2 : ¬ (u = t.n + t.m ∧ v < t.n)) (h3 : ¬ (v = t.n + t.m ∧ u < t.n)) (h4 : ¬ (t.n ≤ u ∧ u < t.n + t.m ∧ v = t.n + t.m + 1)) (h5 : ¬ (t.n ≤ v ∧ v < t.n + t.m ∧ u = t.n + t.m + 1)) : filG t y u v = 0 := by unfold filG; rw [if_neg h1, if_neg h2, if_neg h3, if_neg h4, if_neg h5]
end
/-- The bounds lie in order, and those below leave something of the sums. -/
structure Net.Ok (t : Net) : Prop where
  lh : ∀ i j, i < t.n → j < t.m → t.lo i j ≤ t.hi i j
structure Net.Low (t : Net) : Prop where
  row : ∀ i, i < t.n → sm t.m (t.lo i) ≤ t.R i
  col : ∀ j, j < t.m → sm t.n (fun i => t.lo i j) ≤ t.C j
theorem Net.Flow.low {t : Net} {x : Nat → Nat → Int} (h : t.Flow x) : t.Low :=
  ⟨fun i hi => by rw [← h.row i hi]; exact sm_le fun j hj => h.ge i j hi hj, fun j hj => by rw [← h.col j hj]; exact sm_le fun i hi => h.ge i j hi hj⟩
theorem filR_nn {t : Net} (ho : t.Ok) (hl : t.Low) (u v : Nat) : 0 ≤ filR t u v := by
  unfold filR
  split
  · rename_i h
    have := ho.lh u (v - t.n) h.1 (by omega)
    omega
  · split
    · rename_i h
      have := hl.row v h.2
      omega
    · split
      · rename_i h
        have := hl.col (u - t.n) (by omega)
        omega
      · omega

section
variable {t : Net} {r' : Nat → Nat → Int} {s : Int}
/-- The matrix that was filled. -/
def filX (t : Net) (r' : Nat → Nat → Int) (i j : Nat) : Int := t.hi i j - r' i (t.n + j)
theorem fil_in (h : Sent (t.n + t.m + 2) (filR t) r' (t.n + t.m) (t.n + t.m + 1) s) {i j : Nat} (hi : i < t.n) (hj : j < t.m) : t.lo i j ≤ filX t r' i j ∧ filX t r' i j ≤ t.hi i j := by
  have h1 := h.nn i (t.n + j) (by omega) (by omega)
  have h2 := h.bd (u := i) (v := t.n + j) (by omega) (by omega)
  rw [filR_ij hi hj, filR_no (u := t.n + j) (v := i) (by omega) (by omega) (by omega)] at h2
  unfold filX
  omega
/-- What a row got. -/
theorem fil_row (h : Sent (t.n + t.m + 2) (filR t) r' (t.n + t.m) (t.n + t.m + 1) s) {i : Nat} (hi : i < t.n) : sm t.m (filX t r' i) = t.R i - r' (t.n + t.m) i := by
  have h1 := h.ex i (by omega)
  rw [if_neg (by omega), if_neg (by omega), sm_two, sm_zero (fun k hk => ?_)] at h1
  · rw [h.zero (u := i) (v := t.n + t.m + 1) (by omega) (by omega) (filR_no (by omega) (by omega) (by omega)) (filR_no (by omega) (by omega) (by omega)), filR_no (u := i) (v := t.n + t.m + 1) (by omega) (by omega) (by omega), filR_no (u := i) (v := t.n + t.m) (by omega) (by omega) (by omega)] at h1
    have h2 := h.sym i (t.n + t.m) (by omega) (by omega)
    rw [filR_no (u := i) (v := t.n + t.m) (by omega) (by omega) (by omega), filR_s hi] at h2
    have h3 : sm t.m (fun j => filR t i (t.n + j) - r' i (t.n + j)) = sm t.m (filX t r' i) - sm t.m (t.lo i) := by
      rw [← sm_sub]
      refine sm_congr fun j hj => ?_
      rw [filR_ij hi hj]; unfold filX; omega
    rw [h3] at h1
    omega
  · rw [h.zero (u := i) (v := k) (by omega) (by omega) (filR_no (by omega) (by omega) (by omega)) (filR_no (by omega) (by omega) (by omega)), filR_no (by omega) (by omega) (by omega)]; rfl
/-- What a column got. -/
theorem fil_col (h : Sent (t.n + t.m + 2) (filR t) r' (t.n + t.m) (t.n + t.m + 1) s) {j : Nat} (hj : j < t.m) : sm t.n (fun i => filX t r' i j) = t.C j - r' (t.n + j) (t.n + t.m + 1) := by
  have h1 := h.ex (t.n + j) (by omega)
  rw [if_neg (by omega), if_neg (by omega), sm_two, sm_zero (n := t.m) (fun k hk => ?_)] at h1
  · rw [h.zero (u := t.n + j) (v := t.n + t.m) (by omega) (by omega) (filR_no (by omega) (by omega) (by omega)) (filR_no (by omega) (by omega) (by omega)), filR_no (u := t.n + j) (v := t.n + t.m) (by omega) (by omega) (by omega), filR_t hj] at h1
    have h3 : sm t.n (fun i => filR t (t.n + j) i - r' (t.n + j) i) = sm t.n (fun i => t.lo i j) - sm t.n (fun i => filX t r' i j) := by
      rw [← sm_sub]
      refine sm_congr fun i hi => ?_
      have h2 := h.sym i (t.n + j) (by omega) (by omega)
      rw [filR_ij hi hj] at h2
      unfold filX; omega
    rw [h3] at h1
    omega
  · rw [h.zero (u := t.n + j) (v := t.n + k) (by omega) (by omega) (filR_no (by omega) (by omega) (by omega)) (filR_no (by omega) (by omega) (by omega)), filR_no (by omega) (by omega) (by omega)]; rfl
/-- All rows full: a flow. -/
theorem fil_flow (h : Sent (t.n + t.m + 2) (filR t) r' (t.n + t.m) (t.n + t.m + 1) s) (ht : sm t.n t.R = sm t.m t.C) (hr : ∀ i, i < t.n → sm t.m (filX t r' i) = t.R i) : t.Flow (filX t r') := by
  refine ⟨fun i j hi hj => (fil_in h hi hj).1, fun i j hi hj => (fil_in h hi hj).2, hr, fun j hj => ?_⟩
  have h1 : sm t.m (fun j => sm t.n (fun i => filX t r' i j)) = sm t.m t.C := by
    rw [← ht, ← sm_swap, sm_congr (f := fun i => sm t.m (fun j => filX t r' i j)) hr]
  exact sm_tight (f := fun j => sm t.n (fun i => filX t r' i j)) (g := t.C) (fun k hk => by rw [fil_col h hk]; have := h.nn (t.n + k) (t.n + t.m + 1) (by omega) (by omega); omega) (by omega) hj
/-- If there is a flow and no more can be sent, all rows are full. -/
theorem fil_full (h : Sent (t.n + t.m + 2) (filR t) r' (t.n + t.m) (t.n + t.m + 1) s) {y : Nat → Nat → Int} (hy : t.Flow y) (h0 : ∀ i j, i < t.n → j < t.m → 0 ≤ t.lo i j)
    (hm : s = sm t.n t.R ∨ ∃ S : Nat → Bool, S (t.n + t.m) = true ∧ S (t.n + t.m + 1) = false ∧ ∀ u v, u < t.n + t.m + 2 → v < t.n + t.m + 2 → S u = true → S v = false → r' u v ≤ 0) :
    ∀ i, i < t.n → sm t.m (filX t r' i) = t.R i := by
  have hs : sm t.n (fun i => t.R i - sm t.m (t.lo i)) ≤ s := by
    rcases hm with rfl | ⟨S, h1, h2, h3⟩
    · exact sm_le fun i hi => by have := sm_nonneg (fun j hj => h0 i j hi hj); omega
    · have h4 := h.most (by omega) (by omega) h1 h2 h3 (g := filG t y) ?_ ?_ ?_
      · refine Int.le_trans ?_ h4
        have e1 : sm t.n (filG t y (t.n + t.m)) = sm t.n (fun i => t.R i - sm t.m (t.lo i)) := sm_congr fun k hk => filG_s hk
        have e2 : sm t.m (fun j => filG t y (t.n + t.m) (t.n + j)) = 0 := sm_zero fun k hk => filG_no (by omega) (by omega) (by omega) (by omega) (by omega)
        rw [sm_two, e1, e2, filG_no (v := t.n + t.m) (by omega) (by omega) (by omega) (by omega) (by omega), filG_no (v := t.n + t.m + 1) (by omega) (by omega) (by omega) (by omega) (by omega)]
        omega
      · intro u v hu hv
        unfold filG
        by_cases h5 : u < t.n + t.m ∧ v < t.n + t.m
        · rw [if_pos h5, if_pos h5.symm]; exact bip_anti
        · rw [if_neg h5, if_neg (fun (h6 : v < t.n + t.m ∧ u < t.n + t.m) => h5 h6.symm)]
          by_cases h6 : u = t.n + t.m ∧ v < t.n
          · rw [if_pos h6, if_neg (by omega), if_pos h6]; omega
          · rw [if_neg h6]
            by_cases h7 : v = t.n + t.m ∧ u < t.n
            · rw [if_pos h7, if_pos h7]
            · rw [if_neg h7, if_neg h7, if_neg h6]
              by_cases h8 : t.n ≤ u ∧ u < t.n + t.m ∧ v = t.n + t.m + 1
              · rw [if_pos h8, if_neg (by omega), if_pos h8]; omega
              · rw [if_neg h8]
                by_cases h9 : t.n ≤ v ∧ v < t.n + t.m ∧ u = t.n + t.m + 1
                · rw [if_pos h9, if_pos h9]
                · rw [if_neg h9, if_neg h9, if_neg h8]; rfl
      · intro u v hu hv
        have hnn : ∀ a b, a < t.n + t.m + 2 → b < t.n + t.m + 2 → 0 ≤ filR t a b := by
          intro a b ha hb
          refine filR_nn ⟨fun i j hi hj => ?_⟩ hy.low a b
          have := hy.ge i j hi hj; have := hy.le i j hi hj; omega
        have h0' := hnn u v hu hv
        unfold filG
        by_cases h5 : u < t.n + t.m ∧ v < t.n + t.m
        · rw [if_pos h5]
          by_cases h6 : u < t.n
          · by_cases h7 : v < t.n
            · rw [bip_ii h6 h7]; exact h0'
            · obtain ⟨j, rfl⟩ : ∃ j, v = t.n + j := ⟨v - t.n, by omega⟩
              rw [bip_ij h6, filR_ij h6 (by omega)]
              have := hy.le u j h6 (by omega); omega
          · obtain ⟨j, rfl⟩ : ∃ j, u = t.n + j := ⟨u - t.n, by omega⟩
            by_cases h7 : v < t.n
            · rw [bip_ji h7]
              have := hy.ge v j h7 (by omega); omega
            · rw [bip_jj (by omega) (by omega)]; exact h0'
        · rw [if_neg h5]
          by_cases h6 : u = t.n + t.m ∧ v < t.n
          · rw [if_pos h6, h6.1, filR_s h6.2]; exact Int.le_refl _
          · rw [if_neg h6]
            by_cases h7 : v = t.n + t.m ∧ u < t.n
            · rw [if_pos h7]
              have := hy.low.row u h7.2; omega
            · rw [if_neg h7]
              by_cases h8 : t.n ≤ u ∧ u < t.n + t.m ∧ v = t.n + t.m + 1
              · rw [if_pos h8]
                obtain ⟨j, rfl⟩ : ∃ j, u = t.n + j := ⟨u - t.n, by omega⟩
                rw [h8.2.2, filR_t (by omega), Nat.add_sub_cancel_left]; exact Int.le_refl _
              · rw [if_neg h8]
                by_cases h9 : t.n ≤ v ∧ v < t.n + t.m ∧ u = t.n + t.m + 1
                · rw [if_pos h9]
                  have := hy.low.col (v - t.n) (by omega); omega
                · rw [if_neg h9]; exact h0'
      · intro u hu h5 h6
        rw [sm_two]
        by_cases h7 : u < t.n
        · have e1 : sm t.n (filG t y u) = 0 := sm_zero fun k hk => by rw [filG_in (by omega) (by omega), bip_ii h7 hk]
          have e2 : sm t.m (fun j => filG t y u (t.n + j)) = sm t.m (fun j => y u j - t.lo u j) := sm_congr fun k hk => by rw [filG_in (by omega) (by omega), bip_ij h7]
          rw [e1, e2, filG_s' h7, filG_no (v := t.n + t.m + 1) (by omega) (by omega) (by omega) (by omega) (by omega), sm_sub, hy.row u h7]
          omega
        · obtain ⟨j, rfl⟩ : ∃ j, u = t.n + j := ⟨u - t.n, by omega⟩
          have e1 : sm t.n (filG t y (t.n + j)) = sm t.n (fun i => - (y i j - t.lo i j)) := sm_congr fun k hk => by rw [filG_in (by omega) (by omega), bip_ji hk]
          have e2 : sm t.m (fun k => filG t y (t.n + j) (t.n + k)) = 0 := sm_zero fun k hk => by rw [filG_in (by omega) (by omega), bip_jj (by omega) (by omega)]
          rw [e1, e2, filG_no (v := t.n + t.m) (by omega) (by omega) (by omega) (by omega) (by omega), filG_t (by omega), sm_neg, sm_sub, hy.col j (by omega)]
          omega
  intro i hi
  have h1 := h.ex (t.n + t.m) (by omega)
  rw [if_pos rfl, if_neg (by omega), sm_two, sm_zero (n := t.m) (fun k hk => ?_)] at h1
  · rw [h.zero (u := t.n + t.m) (v := t.n + t.m) (by omega) (by omega) (filR_no (by omega) (by omega) (by omega)) (filR_no (by omega) (by omega) (by omega)), filR_no (u := t.n + t.m) (v := t.n + t.m) (by omega) (by omega) (by omega)] at h1
    rw [h.zero (u := t.n + t.m) (v := t.n + t.m + 1) (by omega) (by omega) (filR_no (by omega) (by omega) (by omega)) (filR_no (by omega) (by omega) (by omega)), filR_no (u := t.n + t.m) (v := t.n + t.m + 1) (by omega) (by omega) (by omega)] at h1
    rw [sm_congr (n := t.n) (g := fun k => (t.R k - sm t.m (t.lo k)) - r' (t.n + t.m) k) (fun k hk => by rw [filR_s hk]), sm_sub] at h1
    have h2 : r' (t.n + t.m) i ≤ sm t.n (r' (t.n + t.m)) := sm_le_one (fun k hk => h.nn _ _ (by omega) (by omega)) hi
    have h3 := h.nn (t.n + t.m) i (by omega) (by omega)
    rw [fil_row h hi]
    omega
  · rw [h.zero (u := t.n + t.m) (v := t.n + k) (by omega) (by omega) (filR_no (by omega) (by omega) (by omega)) (filR_no (by omega) (by omega) (by omega)), filR_no (by omega) (by omega) (by omega)]; rfl
end
end Flo
end

section
namespace Flo

/-- What is left of a flow's elements but for one. -/
def rngR (t : Net) (x : Nat → Nat → Int) (p q : Nat) (u v : Nat) : Int :=
  if u < t.n ∧ t.n ≤ v ∧ v < t.n + t.m then (if u = p ∧ v = t.n + q then 0 else t.hi u (v - t.n) - x u (v - t.n))
  else if v < t.n ∧ t.n ≤ u ∧ u < t.n + t.m then (if v = p ∧ u = t.n + q then 0 else x v (u - t.n) - t.lo v (u - t.n))
  else 0
section
variable {t : Net} {x : Nat → Nat → Int} {p q i j u v : Nat}
theorem rngR_ij (hi : i < t.n) (hj : j < t.m) (h : ¬ (i = p ∧ j = q)) : rngR t x p q i (t.n + j) = t.hi i j - x i j := by unfold rngR; rw [if_pos (by omega), if_neg (by omega), Nat.add_sub_cancel_left]
theorem rngR_ji (hi : i < t.n) (hj : j < t.m) (h : ¬ (i = p ∧ j = q)) : rngR t x p q (t.n + j) i = x i j - t.lo i j := by unfold rngR; rw [if_neg (by omega), if_pos (by omega), if_neg (by omega), Nat.add_sub_cancel_left]
theorem rngR_0 (hi : p < t.n) (hj : q < t.m) : rngR t x p q p (t.n + q) = 0 := by unfold rngR; rw [if_pos (by omega), if_pos (by omega)]
theorem rngR_0' (hi : p < t.n) (hj : q < t.m) : rngR t x p q (t.n + q) p = 0 := by unfold rngR; rw [if_neg (by omega), if_pos (by omega), if_pos (by omega)]
theorem rngR_ii (hu : u < t.n) (hv : v < t.n) : rngR t x p q u v = 0 := by unfold rngR; rw [if_neg (by omega), if_neg (by omega)]
theorem rngR_jj (hu : t.n ≤ u) (hv : t.n ≤ v) : rngR t x p q u v = 0 := by unfold rngR; rw [if_neg (by omega), if_neg (by omega)]
theorem rngR_nn (hx : t.Flow x) (u v : Nat) : 0 ≤ rngR t x p q u v := by
  unfold rngR
  split
  · rename_i h
    split
    · omega
    · have := hx.le u (v - t.n) h.1 (by omega); omega
  · split
    · rename_i h
      split
      · omega
      · have := hx.ge v (u - t.n) h.1 (by omega); omega
    · omega
end

section
variable {t : Net} {x : Nat → Nat → Int} {r' : Nat → Nat → Int} {p q : Nat} {s : Int}
/-- The flow behind a push; e is the element's own change. -/
def rngX (t : Net) (x r' : Nat → Nat → Int) (p q : Nat) (e : Int) (i j : Nat) : Int := if i = p ∧ j = q then x p q + e else t.hi i j - r' i (t.n + j)
theorem sm_but {n j : Nat} {f g : Nat → Int} (hj : j < n) (h : ∀ k, k < n → k ≠ j → f k = g k) : sm n f = sm n g + (f j - g j) := by
  have h1 : sm n (fun k => f k - g k) = f j - g j := sm_only (f := fun k => f k - g k) hj (fun k hk hne => by have := h k hk hne; omega)
  rw [sm_sub] at h1
  omega
theorem rng_flow {a b : Nat} {e : Int} (h : Sent (t.n + t.m) (rngR t x p q) r' a b s) (hx : t.Flow x) (hp : p < t.n) (hq : q < t.m) (hab : (a = p ∧ b = t.n + q ∧ e = - s) ∨ (a = t.n + q ∧ b = p ∧ e = s)) (h1 : t.lo p q ≤ x p q + e) (h2 : x p q + e ≤ t.hi p q) : t.Flow (rngX t x r' p q e) := by
  have hin : ∀ i j, i < t.n → j < t.m → t.lo i j ≤ rngX t x r' p q e i j ∧ rngX t x r' p q e i j ≤ t.hi i j := by
    intro i j hi hj
    unfold rngX
    by_cases h3 : i = p ∧ j = q
    · rw [if_pos h3, h3.1, h3.2]; exact ⟨h1, h2⟩
    · rw [if_neg h3]
      have h4 := h.nn i (t.n + j) (by omega) (by omega)
      have h5 := h.bd (u := i) (v := t.n + j) (by omega) (by omega)
      rw [rngR_ij hi hj h3, rngR_ji hi hj h3] at h5
      omega
  have h0 : r' p (t.n + q) = 0 := h.zero (by omega) (by omega) (rngR_0 hp hq) (rngR_0' hp hq)
  have h0' : r' (t.n + q) p = 0 := h.zero (by omega) (by omega) (rngR_0' hp hq) (rngR_0 hp hq)
  refine ⟨fun i j hi hj => (hin i j hi hj).1, fun i j hi hj => (hin i j hi hj).2, fun i hi => ?_, fun j hj => ?_⟩
  · have h3 := h.ex i (by omega)
    have e1 : sm t.n (fun v => rngR t x p q i v - r' i v) = 0 := sm_zero fun k hk => by
      rw [h.zero (u := i) (v := k) (by omega) (by omega) (rngR_ii hi hk) (rngR_ii hk hi), rngR_ii hi hk]; rfl
    rw [sm_split, e1] at h3
    by_cases h4 : i = p
    · subst h4
      have e2 : sm t.m (fun j => rngR t x i q i (t.n + j) - r' i (t.n + j)) = sm t.m (fun j => rngX t x r' i q e i j - x i j) + (0 - e) := by
        rw [sm_but (g := fun j => rngX t x r' i q e i j - x i j) hq (fun k hk hne => by
          rw [rngR_ij hi hk (fun h5 => hne h5.2)]; unfold rngX; rw [if_neg (fun h5 => hne h5.2)]; omega)]
        simp only [rngR_0 hi hq, h0]
        unfold rngX
        rw [if_pos ⟨rfl, rfl⟩]
        omega
      rw [e2, sm_sub, hx.row i hi] at h3
      have e3 : sm t.m (rngX t x r' i q e i) = sm t.m (fun j => rngX t x r' i q e i j) := rfl
      rw [e3]
      rcases hab with ⟨rfl, rfl, rfl⟩ | ⟨rfl, rfl, rfl⟩
      · rw [if_pos rfl, if_neg (by omega)] at h3; omega
      · rw [if_neg (by omega), if_pos rfl] at h3; omega
    · have e2 : sm t.m (fun j => rngR t x p q i (t.n + j) - r' i (t.n + j)) = sm t.m (fun j => rngX t x r' p q e i j - x i j) := sm_congr fun k hk => by
        rw [rngR_ij hi hk (fun h5 => h4 h5.1)]; unfold rngX; rw [if_neg (fun h5 => h4 h5.1)]; omega
      rw [e2, sm_sub, hx.row i hi] at h3
      have e3 : sm t.m (rngX t x r' p q e i) = sm t.m (fun j => rngX t x r' p q e i j) := rfl
      rw [e3]
      rw [if_neg (by omega), if_neg (by omega)] at h3
      omega
  · have h3 := h.ex (t.n + j) (by omega)
    have e1 : sm t.m (fun v => rngR t x p q (t.n + j) (t.n + v) - r' (t.n + j) (t.n + v)) = 0 := sm_zero fun k hk => by
      rw [h.zero (u := t.n + j) (v := t.n + k) (by omega) (by omega) (rngR_jj (by omega) (by omega)) (rngR_jj (by omega) (by omega)), rngR_jj (by omega) (by omega)]; rfl
    rw [sm_split, e1] at h3
    have hback : ∀ k, k < t.n → ¬ (k = p ∧ j = q) → rngR t x p q (t.n + j) k - r' (t.n + j) k = x k j - rngX t x r' p q e k j := by
      intro k hk hne
      have h5 := h.sym k (t.n + j) (by omega) (by omega)
      rw [rngR_ij hk hj hne, rngR_ji hk hj hne] at h5
      rw [rngR_ji hk hj hne]; unfold rngX; rw [if_neg hne]; omega
    by_cases h4 : j = q
    · subst h4
      have e2 : sm t.n (fun k => rngR t x p j (t.n + j) k - r' (t.n + j) k) = sm t.n (fun k => x k j - rngX t x r' p j e k j) + (0 + e) := by
        rw [sm_but (g := fun k => x k j - rngX t x r' p j e k j) hp (fun k hk hne => hback k hk (fun h5 => hne h5.1))]
        simp only [rngR_0' hp hj, h0']
        unfold rngX
        rw [if_pos ⟨rfl, rfl⟩]
        omega
      rw [e2, sm_sub, hx.col j hj] at h3
      rcases hab with ⟨rfl, rfl, rfl⟩ | ⟨rfl, rfl, rfl⟩
      · rw [if_neg (by omega), if_pos rfl] at h3; omega
      · rw [if_pos rfl, if_neg (by omega)] at h3; omega
    · have e2 : sm t.n (fun k => rngR t x p q (t.n + j) k - r' (t.n + j) k) = sm t.n (fun k => x k j - rngX t x r' p q e k j) := sm_congr fun k hk => hback k hk (fun h5 => h4 h5.2)
      rw [e2, sm_sub, hx.col j hj] at h3
      rw [if_neg (by omega), if_neg (by omega)] at h3
      omega
/-- What another flow sends between the nodes. -/
def rngG (t : Net) (x y : Nat → Nat → Int) (p q : Nat) : Nat → Nat → Int := bip t.n (fun i j => if i = p ∧ j = q then 0 else y i j - x i j)
theorem rngG_le {y : Nat → Nat → Int} (hy : t.Flow y) (hx : t.Flow x) {u v : Nat} (hu : u < t.n + t.m) (hv : v < t.n + t.m) : rngG t x y p q u v ≤ rngR t x p q u v := by
  have h0 := rngR_nn (p := p) (q := q) hx u v
  unfold rngG
  by_cases h1 : u < t.n
  · by_cases h2 : v < t.n
    · rw [bip_ii h1 h2]; exact h0
    · obtain ⟨j, rfl⟩ : ∃ j, v = t.n + j := ⟨v - t.n, by omega⟩
      rw [bip_ij h1]
      by_cases h3 : u = p ∧ j = q
      · rw [if_pos h3]; exact h0
      · rw [if_neg h3, rngR_ij h1 (by omega) h3]
        have := hy.le u j h1 (by omega); omega
  · obtain ⟨j, rfl⟩ : ∃ j, u = t.n + j := ⟨u - t.n, by omega⟩
    by_cases h2 : v < t.n
    · rw [bip_ji h2]
      by_cases h3 : v = p ∧ j = q
      · rw [if_pos h3]; exact h0
      · rw [if_neg h3, rngR_ji h2 (by omega) h3]
        have := hy.ge v j h2 (by omega); omega
    · rw [bip_jj (by omega) (by omega)]; exact h0
theorem rngG_row {y : Nat → Nat → Int} (hy : t.Flow y) (hx : t.Flow x) {i : Nat} (hi : i < t.n) (hq : q < t.m) : sm (t.n + t.m) (rngG t x y p q i) = if i = p then x p q - y p q else 0 := by
  unfold rngG
  rw [bip_row hi]
  by_cases h : i = p
  · subst h
    rw [if_pos rfl, sm_but (g := fun j => y i j - x i j) hq (fun k hk hne => by rw [if_neg (fun h5 => hne h5.2)]), sm_sub, hx.row i hi]
    rw [show sm t.m (fun j => y i j) = t.R i from hy.row i hi, if_pos ⟨rfl, rfl⟩]
    omega
  · rw [if_neg h, sm_congr (g := fun j => y i j - x i j) (fun k hk => by rw [if_neg (fun h5 => h h5.1)]), sm_sub, hx.row i hi]
    rw [show sm t.m (fun j => y i j) = t.R i from hy.row i hi]
    omega
theorem rngG_col {y : Nat → Nat → Int} (hy : t.Flow y) (hx : t.Flow x) {j : Nat} (hj : j < t.m) (hp : p < t.n) : sm (t.n + t.m) (rngG t x y p q (t.n + j)) = if j = q then y p q - x p q else 0 := by
  unfold rngG
  rw [bip_col]
  by_cases h : j = q
  · subst h
    rw [if_pos rfl, sm_but (g := fun i => y i j - x i j) hp (fun k hk hne => by rw [if_neg (fun h5 => hne h5.1)]), sm_sub, hx.col j hj, hy.col j hj, if_pos ⟨rfl, rfl⟩]
    omega
  · rw [if_neg h, sm_congr (g := fun i => y i j - x i j) (fun k hk => by rw [if_neg (fun h5 => h h5.2)]), sm_sub, hx.col j hj, hy.col j hj]
    omega
/-- Nothing more can be sent. -/
def Most (K : Nat) (r' : Nat → Nat → Int) (a b : Nat) (s l : Int) : Prop := s = l ∨ ∃ S : Nat → Bool, S a = true ∧ S b = false ∧ ∀ u v, u < K → v < K → S u = true → S v = false → r' u v ≤ 0
theorem rng_min (h : Sent (t.n + t.m) (rngR t x p q) r' p (t.n + q) s) (hx : t.Flow x) (hp : p < t.n) (hq : q < t.m) (hs : s ≤ x p q - t.lo p q) (h0 : 0 ≤ s) (hm : Most (t.n + t.m) r' p (t.n + q) s (x p q - t.lo p q)) : t.IsMin p q (x p q - s) := by
  have hle := hx.le p q hp hq
  refine ⟨⟨rngX t x r' p q (-s), rng_flow h hx hp hq (.inl ⟨rfl, rfl, rfl⟩) (by omega) (by omega), by unfold rngX; rw [if_pos ⟨rfl, rfl⟩]; omega⟩, fun y hy => ?_⟩
  rcases hm with rfl | ⟨S, h1, h2, h3⟩
  · have := hy.ge p q hp hq; omega
  · have h4 := h.most (by omega) (by omega) h1 h2 h3 (g := rngG t x y p q) (fun u v _ _ => bip_anti) (fun u v hu hv => rngG_le hy hx hu hv) (fun u hu ha hb => by
      by_cases h5 : u < t.n
      · rw [rngG_row hy hx h5 hq, if_neg ha]
      · obtain ⟨j, rfl⟩ : ∃ j, u = t.n + j := ⟨u - t.n, by omega⟩
        rw [rngG_col hy hx (by omega) hp, if_neg (by omega)])
    rw [rngG_row hy hx hp hq, if_pos rfl] at h4
    omega
theorem rng_max (h : Sent (t.n + t.m) (rngR t x p q) r' (t.n + q) p s) (hx : t.Flow x) (hp : p < t.n) (hq : q < t.m) (hs : s ≤ t.hi p q - x p q) (h0 : 0 ≤ s) (hm : Most (t.n + t.m) r' (t.n + q) p s (t.hi p q - x p q)) : t.IsMax p q (x p q + s) := by
  have hle := hx.ge p q hp hq
  refine ⟨⟨rngX t x r' p q s, rng_flow h hx hp hq (.inr ⟨rfl, rfl, rfl⟩) (by omega) (by omega), by unfold rngX; rw [if_pos ⟨rfl, rfl⟩]⟩, fun y hy => ?_⟩
  rcases hm with rfl | ⟨S, h1, h2, h3⟩
  · have := hy.le p q hp hq; omega
  · have h4 := h.most (by omega) (by omega) h1 h2 h3 (g := rngG t x y p q) (fun u v _ _ => bip_anti) (fun u v hu hv => rngG_le hy hx hu hv) (fun u hu ha hb => by
      by_cases h5 : u < t.n
      · rw [rngG_row hy hx h5 hq, if_neg hb]
      · obtain ⟨j, rfl⟩ : ∃ j, u = t.n + j := ⟨u - t.n, by omega⟩
        rw [rngG_col hy hx (by omega) hp, if_neg (by omega)])
    rw [rngG_col hy hx hq hp, if_pos rfl] at h4
    omega
end

/-- A matrix within the bounds, with what is left of the sums. -/
structure Net.Part (t : Net) (x : Nat → Nat → Int) (a b : Nat → Int) : Prop where
  ge : ∀ i j, i < t.n → j < t.m → t.lo i j ≤ x i j
  le : ∀ i j, i < t.n → j < t.m → x i j ≤ t.hi i j
  row : ∀ i, i < t.n → sm t.m (x i) + a i = t.R i
  col : ∀ j, j < t.m → sm t.n (fun i => x i j) + b j = t.C j
  an : ∀ i, i < t.n → 0 ≤ a i
  bn : ∀ j, j < t.m → 0 ≤ b j
/-- How much more can go from a node to another. -/
def roomV (t : Net) (x : Nat → Nat → Int) (u v : Nat) : Int := if u < t.n ∧ t.n ≤ v then t.hi u (v - t.n) - x u (v - t.n) else if t.n ≤ u ∧ v < t.n then x v (u - t.n) - t.lo v (u - t.n) else 0
section
variable {t : Net} {x y : Nat → Nat → Int} {a b : Nat → Int}
theorem Net.Part.flow (h : t.Part x a b) (ht : sm t.n t.R = sm t.m t.C) (h0 : sm t.n a = 0) : t.Flow x := by
  have ha : ∀ i, i < t.n → a i = 0 := fun i hi => by have := sm_le_one h.an hi; have := h.an i hi; omega
  refine ⟨h.ge, h.le, fun i hi => by have := h.row i hi; rw [ha i hi] at this; omega, ?_⟩
  have h1 : sm t.m b = 0 := by
    have h2 : sm t.n (fun i => sm t.m (x i) + a i) = sm t.n t.R := sm_congr h.row
    have h3 : sm t.m (fun j => sm t.n (fun i => x i j) + b j) = sm t.m t.C := sm_congr h.col
    rw [sm_add] at h2 h3
    have h4 : sm t.n (fun i => sm t.m (x i)) = sm t.m (fun j => sm t.n (fun i => x i j)) := sm_swap (f := x)
    have h5 : sm t.n (fun i => a i) = sm t.n a := rfl
    have h6 : sm t.m (fun i => b i) = sm t.m b := rfl
    omega
  intro j hj
  have h2 := h.col j hj
  have := sm_le_one h.bn hj
  have := h.bn j hj
  omega
/-- Where a set of nodes has no room out of it, a flow leaves no row with something left. -/
theorem Net.Part.full (h : t.Part x a b) (hy : t.Flow y) {S : Nat → Bool} (h1 : ∀ i, i < t.n → 0 < a i → S i = true) (h2 : ∀ j, j < t.m → S (t.n + j) = true → b j ≤ 0) (h3 : ∀ u v, u < t.n + t.m → v < t.n + t.m → S u = true → S v = false → roomV t x u v ≤ 0) : sm t.n a = 0 := by
  have h4 := cut_le (K := t.n + t.m) (g := bip t.n (fun i j => y i j - x i j)) (S := S) (fun u v _ _ => bip_anti) (fun u v hu hv h5 h6 => by
    have h7 := h3 u v hu hv h5 h6
    unfold roomV at h7
    by_cases h8 : u < t.n
    · by_cases h9 : v < t.n
      · rw [bip_ii h8 h9]; omega
      · obtain ⟨j, rfl⟩ : ∃ j, v = t.n + j := ⟨v - t.n, by omega⟩
        rw [bip_ij h8]
        rw [if_pos (by omega), Nat.add_sub_cancel_left] at h7
        have := hy.le u j h8 (by omega); omega
    · obtain ⟨j, rfl⟩ : ∃ j, u = t.n + j := ⟨u - t.n, by omega⟩
      by_cases h9 : v < t.n
      · rw [bip_ji h9]
        rw [if_neg (by omega), if_pos (by omega), Nat.add_sub_cancel_left] at h7
        have := hy.ge v j h9 (by omega); omega
      · rw [bip_jj (by omega) (by omega)]; omega)
  rw [sm_split] at h4
  have e1 : sm t.n (fun u => if S u = true then sm (t.n + t.m) (bip t.n (fun i j => y i j - x i j) u) else 0) = sm t.n a := sm_congr fun i hi => by
    have h5 : sm (t.n + t.m) (bip t.n (fun i j => y i j - x i j) i) = a i := by
      rw [bip_row hi, sm_sub]
      have h6 := h.row i hi
      have h7 : sm t.m (y i) = t.R i := hy.row i hi
      show sm t.m (y i) - sm t.m (x i) = a i
      omega
    by_cases h6 : S i = true
    · rw [if_pos h6, h5]
    · rw [if_neg h6]
      have h7 := h.an i hi
      have h8 : ¬ 0 < a i := fun h9 => h6 (h1 i hi h9)
      omega
  have e2 : sm t.m (fun j => if S (t.n + j) = true then sm (t.n + t.m) (bip t.n (fun i j => y i j - x i j) (t.n + j)) else 0) = 0 := sm_zero fun j hj => by
    by_cases h6 : S (t.n + j) = true
    · rw [if_pos h6, bip_col, sm_sub, hy.col j hj]
      have h7 := h.col j hj
      have h8 := h2 j hj h6
      have h9 := h.bn j hj
      omega
    · rw [if_neg h6]
  rw [e1, e2] at h4
  have := sm_nonneg h.an
  omega
end

/-- Other bounds of one element. -/
def Net.bound (t : Net) (p q : Nat) (a b : Int) : Net := { t with lo := fun i j => if i = p ∧ j = q then a else t.lo i j, hi := fun i j => if i = p ∧ j = q then b else t.hi i j }
section
variable {t : Net} {p q : Nat} {a b : Int} {x : Nat → Nat → Int}
theorem Net.Flow.bound (h : t.Flow x) (h1 : a ≤ x p q) (h2 : x p q ≤ b) : (t.bound p q a b).Flow x :=
  ⟨fun i j hi hj => by
      show (if i = p ∧ j = q then a else t.lo i j) ≤ x i j
      by_cases h3 : i = p ∧ j = q
      · rw [if_pos h3, h3.1, h3.2]; exact h1
      · rw [if_neg h3]; exact h.ge i j hi hj,
   fun i j hi hj => by
      show x i j ≤ (if i = p ∧ j = q then b else t.hi i j)
      by_cases h3 : i = p ∧ j = q
      · rw [if_pos h3, h3.1, h3.2]; exact h2
      · rw [if_neg h3]; exact h.le i j hi hj, h.row, h.col⟩
theorem Net.Flow.unbound (h : (t.bound p q a b).Flow x) (h1 : t.lo p q ≤ a) (h2 : b ≤ t.hi p q) : t.Flow x :=
  ⟨fun i j hi hj => by
      have h3 : (if i = p ∧ j = q then a else t.lo i j) ≤ x i j := h.ge i j hi hj
      by_cases h4 : i = p ∧ j = q
      · rw [if_pos h4] at h3; rw [h4.1, h4.2] at h3 ⊢; omega
      · rw [if_neg h4] at h3; exact h3,
   fun i j hi hj => by
      have h3 : x i j ≤ (if i = p ∧ j = q then b else t.hi i j) := h.le i j hi hj
      by_cases h4 : i = p ∧ j = q
      · rw [if_pos h4] at h3; rw [h4.1, h4.2] at h3 ⊢; omega
      · rw [if_neg h4] at h3; exact h3, h.row, h.col⟩
theorem Net.Flow.at_bound (h : (t.bound p q a b).Flow x) (hp : p < t.n) (hq : q < t.m) : a ≤ x p q ∧ x p q ≤ b := by
  have h1 : (if p = p ∧ q = q then a else t.lo p q) ≤ x p q := h.ge p q hp hq
  have h2 : x p q ≤ (if p = p ∧ q = q then b else t.hi p q) := h.le p q hp hq
  rw [if_pos ⟨rfl, rfl⟩] at h1 h2
  exact ⟨h1, h2⟩
end
end Flo
end

section
namespace Flo

def sn (l : List Nat) (i : Nat) : Nat := l[i]?.getD 0
section
variable {l : List Nat} {i v : Nat}
theorem sn_left (h : i < l.length) : sn (l ++ [v]) i = sn l i := by unfold sn; rw [List.getElem?_append_left h]
theorem sn_new : sn (l ++ [v]) l.length = v := by unfold sn; rw [List.getElem?_append_right (Nat.le_refl _)]; simp
end
/-- A search: the nodes seen, in order, the first k of them done, each but the roots with its parent. -/
structure Bfs (K : Nat) (r : Nat → Nat → Int) (root : Nat → Bool) (par : Nat → Nat) (seen : List Nat) (k : Nat) : Prop where
  lt : ∀ i, i < seen.length → sn seen i < K
  nd : ∀ i j, i < j → j < seen.length → sn seen i ≠ sn seen j
  kl : k ≤ seen.length
  roots : ∀ v, v < K → root v = true → v ∈ seen
  par_ : ∀ i, i < seen.length → root (sn seen i) = false → ∃ j, j < i ∧ par (sn seen i) = sn seen j ∧ 0 < r (sn seen j) (sn seen i)
  done : ∀ j, j < k → ∀ v, v < K → 0 < r (sn seen j) v → v ∈ seen
  cnt : (seen.length : Int) = sm K (fun v => if v ∈ seen then 1 else 0)
section
variable {K : Nat} {r : Nat → Nat → Int} {root : Nat → Bool} {par : Nat → Nat} {seen : List Nat} {k : Nat}
theorem Bfs.len (h : Bfs K r root par seen k) : seen.length ≤ K := by
  have h1 := h.cnt
  have h2 : sm K (fun v => if v ∈ seen then (1 : Int) else 0) ≤ sm K (fun _ => 1) := sm_le fun v _ => by split <;> omega
  have h3 : ∀ n : Nat, sm n (fun _ => (1 : Int)) = n := fun n => by
    induction n with
    | zero => rfl
    | succ n ih => simp only [sm]; rw [ih]; omega
  rw [h3] at h2
  omega
theorem mem_sn {l : List Nat} {v : Nat} : v ∈ l ↔ ∃ i, i < l.length ∧ sn l i = v := by
  constructor
  · intro h
    obtain ⟨i, hi, e⟩ := List.mem_iff_getElem.1 h
    exact ⟨i, hi, by unfold sn; rw [List.getElem?_eq_getElem hi]; exact e⟩
  · rintro ⟨i, hi, rfl⟩
    unfold sn
    rw [List.getElem?_eq_getElem hi]
    exact List.getElem_mem hi
/-- One node more. -/
theorem Bfs.more (h : Bfs K r root par seen k) (hk : k < seen.length) {v : Nat} (hv : v < K) (hn : v ∉ seen) (hr : 0 < r (sn seen k) v) : Bfs K r root (fun x => if x = v then sn seen k else par x) (seen ++ [v]) k := by
  have hne : ∀ i, i < seen.length → sn seen i ≠ v := fun i hi e => hn (mem_sn.2 ⟨i, hi, e⟩)
  have hroot : root v = false := by
    cases h1 : root v
    · rfl
    · exact absurd (h.roots v hv h1) hn
  refine ⟨fun i hi => ?_, fun i j hij hj => ?_, by simp only [List.length_append]; have := h.kl; omega, fun x hx hr => List.mem_append_left _ (h.roots x hx hr), fun i hi hr2 => ?_, fun j hj x hx hr2 => ?_, ?_⟩
  · simp only [List.length_append, List.length_singleton] at hi
    rcases Nat.lt_or_ge i seen.length with h1 | h1
    · rw [sn_left h1]; exact h.lt i h1
    · obtain rfl : i = seen.length := by omega
      rw [sn_new]; exact hv
  · simp only [List.length_append, List.length_singleton] at hj
    rcases Nat.lt_or_ge j seen.length with h1 | h1
    · rw [sn_left h1, sn_left (by omega)]; exact h.nd i j hij h1
    · obtain rfl : j = seen.length := by omega
      rw [sn_new, sn_left hij]; exact hne i hij
  · simp only [List.length_append, List.length_singleton] at hi
    rcases Nat.lt_or_ge i seen.length with h1 | h1
    · rw [sn_left h1] at hr2 ⊢
      obtain ⟨j, h2, h3, h4⟩ := h.par_ i h1 hr2
      exact ⟨j, h2, by rw [if_neg (hne i h1), sn_left (by omega)]; exact h3, by rw [sn_left (by omega)]; exact h4⟩
    · obtain rfl : i = seen.length := by omega
      rw [sn_new]
      exact ⟨k, hk, by rw [if_pos rfl, sn_left hk], by rw [sn_left hk]; exact hr⟩
  · have h1 := h.kl
    rw [sn_left (by omega)] at hr2
    exact List.mem_append_left _ (h.done j hj x hx hr2)
  · have h1 := h.cnt
    rw [sm_but (g := fun x => if x ∈ seen then (1 : Int) else 0) hv (fun x _ hx => by simp [hx]), ← h1]
    simp [hn]
/-- The node is done. -/
theorem Bfs.next (h : Bfs K r root par seen k) (hk : k < seen.length) (hd : ∀ v, v < K → 0 < r (sn seen k) v → v ∈ seen) : Bfs K r root par seen (k + 1) :=
  ⟨h.lt, h.nd, by omega, h.roots, h.par_, fun j hj v hv hr => by
    rcases Nat.lt_or_ge j k with h1 | h1
    · exact h.done j h1 v hv hr
    · obtain rfl : j = k := by omega
      exact hd v hv hr, h.cnt⟩
theorem Bfs.cut (h : Bfs K r root par seen seen.length) {u v : Nat} (hv : v < K) (h1 : u ∈ seen) (h2 : v ∉ seen) : r u v ≤ 0 := by
  obtain ⟨i, hi, rfl⟩ := mem_sn.1 h1
  apply Int.not_lt.1
  intro h3
  exact h2 (h.done i hi v hv h3)
/-- The search at its beginning, from one node. -/
theorem Bfs.start {a : Nat} (ha : a < K) : Bfs K r (fun v => v == a) par [a] 0 := by
  refine ⟨fun i hi => ?_, fun i j hij hj => ?_, by simp, fun v _ hv => by simpa using hv, fun i hi hr => ?_, fun j hj => absurd hj (by omega), ?_⟩
  · obtain rfl : i = 0 := by simp only [List.length_singleton] at hi; omega
    exact ha
  · simp only [List.length_singleton] at hj; omega
  · obtain rfl : i = 0 := by simp only [List.length_singleton] at hi; omega
    simp [sn] at hr
  · rw [sm_congr (g := fun k => if k = a then 1 else 0) (fun k _ => by simp), sm_one ha]; rfl

/-- The way back from a seen node: the places, in the order of search, of its nodes but the root. -/
inductive Way (root : Nat → Bool) (par : Nat → Nat) (seen : List Nat) : Nat → List Nat → Prop
  | root {i : Nat} : root (sn seen i) = true → Way root par seen i []
  | step {i j : Nat} {l : List Nat} : root (sn seen i) = false → par (sn seen i) = sn seen j → j < i → Way root par seen j l → Way root par seen i (i :: l)
theorem Bfs.way (h : Bfs K r root par seen k) : ∀ n i, i ≤ n → i < seen.length → ∃ l, Way root par seen i l
  | 0, i, hi, hl => by
    obtain rfl : i = 0 := by omega
    cases h1 : root (sn seen 0)
    · obtain ⟨j, h2, _⟩ := h.par_ 0 hl h1; omega
    · exact ⟨[], .root h1⟩
  | n + 1, i, hi, hl => by
    cases h1 : root (sn seen i)
    · obtain ⟨j, h2, h3, _⟩ := h.par_ i hl h1
      obtain ⟨l, h4⟩ := h.way n j (by omega) (by omega)
      exact ⟨i :: l, .step h1 h3 h2 h4⟩
    · exact ⟨[], .root h1⟩
theorem Way.le {i : Nat} {l : List Nat} (h : Way root par seen i l) : ∀ e ∈ l, e ≤ i ∧ root (sn seen e) = false := by
  induction h with
  | root h => intro e he; cases he
  | step h1 h2 h3 h4 ih =>
    intro e he
    rcases List.mem_cons.1 he with rfl | he
    · exact ⟨Nat.le_refl _, h1⟩
    · have := ih e he; exact ⟨by omega, this.2⟩
/-- What is sent along the way, as far as the place i; the edges before it are as they were. -/
structure Along (K : Nat) (r r' : Nat → Nat → Int) (seen : List Nat) (i b : Nat) (s : Int) : Prop where
  sent : Sent K r r' (sn seen i) b s
  same : ∀ p q, p < q → q ≤ i → r' (sn seen p) (sn seen q) = r (sn seen p) (sn seen q)
theorem Along.start {i : Nat} {s : Int} (h : ∀ u v, u < K → v < K → 0 ≤ r u v) : Along K r r seen i (sn seen i) s := ⟨Sent.nil h, fun _ _ _ _ => rfl⟩
theorem Along.step {i j b : Nat} {r' : Nat → Nat → Int} {s : Int} (h : Along K r r' seen i b s) (hb : Bfs K r root par seen k) (hi : i < seen.length) (hji : j < i) (hs0 : 0 ≤ s) (hs : s ≤ r (sn seen j) (sn seen i)) : Along K r (edge r' (sn seen j) (sn seen i) s) seen j b s := by
  refine ⟨h.sent.step (hb.lt j (by omega)) (hb.lt i hi) (hb.nd j i hji hi) hs0 (by rw [h.same j i hji (Nat.le_refl _)]; exact hs), fun p q hpq hq => ?_⟩
  unfold edge
  rw [if_neg (fun h1 => hb.nd q i (by omega) hi h1.2), if_neg (fun h1 => hb.nd p i (by omega) hi h1.1)]
  exact h.same p q hpq (by omega)
end
theorem Sent.congr {K a b : Nat} {r r' r2 : Nat → Nat → Int} {s : Int} (h : Sent K r r' a b s) (he : ∀ u v, u < K → v < K → r2 u v = r' u v) : Sent K r r2 a b s :=
  ⟨fun u v hu hv => by rw [he u v hu hv]; exact h.nn u v hu hv, fun u v hu hv => by rw [he u v hu hv, he v u hv hu]; exact h.sym u v hu hv, fun u hu => by rw [sm_congr (g := fun v => r u v - r' u v) (fun v hv => by rw [he u v hu hv])]; exact h.ex u hu⟩

/-- Sending between the rows and columns of a matrix. -/
def updM (x : Nat → Nat → Int) (p q : Nat) (v : Int) : Nat → Nat → Int := fun i j => if i = p ∧ j = q then v else x i j
section
variable {t : Net} {x y : Nat → Nat → Int} {a b : Nat → Int} {p q : Nat} {s : Int}
theorem roomV_ij {i j : Nat} (hi : i < t.n) : roomV t x i (t.n + j) = t.hi i j - x i j := by unfold roomV; rw [if_pos (by omega), Nat.add_sub_cancel_left]
theorem roomV_ji {i j : Nat} (hi : i < t.n) : roomV t x (t.n + j) i = x i j - t.lo i j := by unfold roomV; rw [if_neg (by omega), if_pos (by omega), Nat.add_sub_cancel_left]
theorem roomV_ii {u v : Nat} (hu : u < t.n) (hv : v < t.n) : roomV t x u v = 0 := by unfold roomV; rw [if_neg (by omega), if_neg (by omega)]
theorem roomV_jj {u v : Nat} (hu : t.n ≤ u) (hv : t.n ≤ v) : roomV t x u v = 0 := by unfold roomV; rw [if_neg (by omega), if_neg (by omega)]
theorem room_add (hp : p < t.n) (u v : Nat) : roomV t (updM x p q (x p q + s)) u v = edge (roomV t x) p (t.n + q) s u v := by
  unfold edge
  by_cases h1 : u < t.n
  · by_cases h2 : v < t.n
    · rw [roomV_ii h1 h2, roomV_ii h1 h2, if_neg (by omega), if_neg (by omega)]
    · obtain ⟨j, rfl⟩ : ∃ j, v = t.n + j := ⟨v - t.n, by omega⟩
      rw [roomV_ij h1, roomV_ij h1]
      unfold updM
      by_cases h3 : u = p ∧ j = q
      · rw [if_pos h3, if_pos (by omega), h3.1, h3.2]; omega
      · rw [if_neg h3, if_neg (by omega), if_neg (by omega)]
  · obtain ⟨j, rfl⟩ : ∃ j, u = t.n + j := ⟨u - t.n, by omega⟩
    by_cases h2 : v < t.n
    · rw [roomV_ji h2, roomV_ji h2]
      unfold updM
      by_cases h3 : v = p ∧ j = q
      · rw [if_pos h3, if_neg (by omega), if_pos (by omega), h3.1, h3.2]; omega
      · rw [if_neg h3, if_neg (by omega), if_neg (by omega)]
    · rw [roomV_jj (by omega) (by omega), roomV_jj (by omega) (by omega), if_neg (by omega), if_neg (by omega)]
theorem room_sub (hp : p < t.n) (u v : Nat) : roomV t (updM x p q (x p q - s)) u v = edge (roomV t x) (t.n + q) p s u v := by
  unfold edge
  by_cases h1 : u < t.n
  · by_cases h2 : v < t.n
    · rw [roomV_ii h1 h2, roomV_ii h1 h2, if_neg (by omega), if_neg (by omega)]
    · obtain ⟨j, rfl⟩ : ∃ j, v = t.n + j := ⟨v - t.n, by omega⟩
      rw [roomV_ij h1, roomV_ij h1]
      unfold updM
      by_cases h3 : u = p ∧ j = q
      · rw [if_pos h3, if_neg (by omega), if_pos (by omega), h3.1, h3.2]; omega
      · rw [if_neg h3, if_neg (by omega), if_neg (by omega)]
  · obtain ⟨j, rfl⟩ : ∃ j, u = t.n + j := ⟨u - t.n, by omega⟩
    by_cases h2 : v < t.n
    · rw [roomV_ji h2, roomV_ji h2]
      unfold updM
      by_cases h3 : v = p ∧ j = q
      · rw [if_pos h3, if_pos (by omega), h3.1, h3.2]; omega
      · rw [if_neg h3, if_neg (by omega), if_neg (by omega)]
    · rw [roomV_jj (by omega) (by omega), roomV_jj (by omega) (by omega), if_neg (by omega), if_neg (by omega)]
theorem Net.Part.room_nn (h : t.Part x a b) {u v : Nat} (hu : u < t.n + t.m) (hv : v < t.n + t.m) : 0 ≤ roomV t x u v := by
  by_cases h1 : u < t.n
  · by_cases h2 : v < t.n
    · rw [roomV_ii h1 h2]; omega
    · obtain ⟨j, rfl⟩ : ∃ j, v = t.n + j := ⟨v - t.n, by omega⟩
      rw [roomV_ij h1]; have := h.le u j h1 (by omega); omega
  · obtain ⟨j, rfl⟩ : ∃ j, u = t.n + j := ⟨u - t.n, by omega⟩
    by_cases h2 : v < t.n
    · rw [roomV_ji h2]; have := h.ge v j h2 (by omega); omega
    · rw [roomV_jj (by omega) (by omega)]; omega
/-- Behind a path from a row to a column. -/
theorem Net.Part.sent (h : t.Part x a b) (hs : Sent (t.n + t.m) (roomV t x) (roomV t y) p (t.n + q) s) (hp : p < t.n) (hq : q < t.m) (h1 : s ≤ a p) (h2 : s ≤ b q) : t.Part y (fun i => if i = p then a i - s else a i) (fun j => if j = q then b j - s else b j) := by
  refine ⟨fun i j hi hj => ?_, fun i j hi hj => ?_, fun i hi => ?_, fun j hj => ?_, fun i hi => ?_, fun j hj => ?_⟩
  · have h3 := hs.nn (t.n + j) i (by omega) (by omega)
    rw [roomV_ji hi] at h3; omega
  · have h3 := hs.nn i (t.n + j) (by omega) (by omega)
    rw [roomV_ij hi] at h3; omega
  · have h3 := hs.ex i (by omega)
    have e1 : sm t.n (fun v => roomV t x i v - roomV t y i v) = 0 := sm_zero fun k hk => by rw [roomV_ii hi hk, roomV_ii hi hk]; rfl
    have e2 : sm t.m (fun j => roomV t x i (t.n + j) - roomV t y i (t.n + j)) = sm t.m (fun j => y i j - x i j) := sm_congr fun j _ => by rw [roomV_ij hi, roomV_ij hi]; omega
    rw [sm_split, e1, e2, sm_sub, if_neg (show ¬ i = t.n + q by omega)] at h3
    have h4 : sm t.m (x i) + a i = t.R i := h.row i hi
    have h5 : sm t.m (fun j => x i j) = sm t.m (x i) := rfl
    have h6 : sm t.m (fun j => y i j) = sm t.m (y i) := rfl
    rw [h5, h6] at h3
    by_cases h7 : i = p
    · rw [if_pos h7] at h3; rw [if_pos h7]; omega
    · rw [if_neg h7] at h3; rw [if_neg h7]; omega
  · have h3 := hs.ex (t.n + j) (by omega)
    have e1 : sm t.m (fun v => roomV t x (t.n + j) (t.n + v) - roomV t y (t.n + j) (t.n + v)) = 0 := sm_zero fun k hk => by rw [roomV_jj (by omega) (by omega), roomV_jj (by omega) (by omega)]; rfl
    have e2 : sm t.n (fun i => roomV t x (t.n + j) i - roomV t y (t.n + j) i) = sm t.n (fun i => x i j - y i j) := sm_congr fun i hi => by rw [roomV_ji hi, roomV_ji hi]; omega
    rw [sm_split, e1, e2, sm_sub, if_neg (show ¬ t.n + j = p by omega)] at h3
    have h4 := h.col j hj
    by_cases h7 : j = q
    · rw [if_pos (show t.n + j = t.n + q by omega)] at h3; rw [if_pos h7]; omega
    · rw [if_neg (show ¬ t.n + j = t.n + q by omega)] at h3; rw [if_neg h7]; omega
  · have := h.an i hi
    split
    · rename_i e; subst e; omega
    · exact this
  · have := h.bn j hj
    split
    · rename_i e; subst e; omega
    · exact this
end
end Flo
end

section
namespace Flo

section
variable {K : Nat} {r r' : Nat → Nat → Int} {root : Nat → Bool} {par : Nat → Nat} {seen l l1 l2 : List Nat} {k i j u v : Nat} {s s2 : Int}
theorem Way.no (h : Way root par seen i l) (hr : root (sn seen i) = false) : ∃ j l', l = i :: l' ∧ par (sn seen i) = sn seen j ∧ j < i ∧ Way root par seen j l' := by
  cases h with
  | root h => rw [h] at hr; cases hr
  | step h1 h2 h3 h4 => exact ⟨_, _, rfl, h2, h3, h4⟩
theorem Way.yes (h : Way root par seen i l) (hr : root (sn seen i) = true) : l = [] := by
  cases h with
  | root h => rfl
  | step h1 h2 h3 h4 => rw [h1] at hr; cases hr
/-- The edges of a way have room for an amount. -/
def Cap (r : Nat → Nat → Int) (par : Nat → Nat) (seen l : List Nat) (s : Int) : Prop := ∀ e ∈ l, s ≤ r (par (sn seen e)) (sn seen e)
theorem Cap.nil : Cap r par seen [] s := fun e he => by cases he
theorem Cap.less (h : Cap r par seen l s) (hs : s2 ≤ s) : Cap r par seen l s2 := fun e he => Int.le_trans hs (h e he)
theorem Cap.snoc (h : Cap r par seen l s) (hi : s ≤ r (par (sn seen i)) (sn seen i)) : Cap r par seen (l ++ [i]) s := fun e he => by
  rcases List.mem_append.1 he with h1 | h1
  · exact h e h1
  · obtain rfl := List.mem_singleton.1 h1
    exact hi
theorem Cap.tail (h : Cap r par seen (i :: l) s) : Cap r par seen l s := fun e he => h e (List.mem_cons_of_mem _ he)
theorem Cap.head (h : Cap r par seen (i :: l) s) : s ≤ r (par (sn seen i)) (sn seen i) := h i (List.mem_cons_self ..)

/-- An edge, as two changes of cells. -/
theorem edge_upd (h : u ≠ v) (a b : Nat) : edge r u v s a b = updM (updM r u v (r u v - s)) v u (r v u + s) a b := by
  unfold edge updM
  by_cases h1 : a = u ∧ b = v
  · rw [if_pos h1, if_neg (fun h2 => h (h1.1.symm.trans h2.1)), if_pos h1, h1.1, h1.2]
  · rw [if_neg h1]
    by_cases h2 : a = v ∧ b = u
    · rw [if_pos h2, if_pos h2, h2.1, h2.2]
    · rw [if_neg h2, if_neg h2, if_neg h1]
theorem Sent.congr0 {r2 : Nat → Nat → Int} {a b : Nat} (h : Sent K r r' a b s) (he : ∀ u v, r2 u v = r' u v) : Sent K r r2 a b s := h.congr fun u v _ _ => he u v

/-- What the vector of parents holds, in the reference and in the program. -/
def BkS (K : Nat) (g : Nat → Int) (root : Nat → Bool) (par : Nat → Nat) (seen : List Nat) : Prop := ∀ v, v < K → (v ∈ seen → g v = if root v then -1 else (par v : Int)) ∧ (v ∉ seen → g v = -2)
def BkI (K : Nat) (g : Nat → Int) (par : Nat → Nat) (seen : List Nat) : Prop := ∀ v, v < K → (v ∈ seen → g v = (par v : Int)) ∧ (v ∉ seen → g v = -1)
theorem BkS.more {g : Nat → Int} {p : Nat} (h : BkS K g root par seen) (hr : root v = false) : BkS K (fun k => if k = v then (p : Int) else g k) root (fun x => if x = v then p else par x) (seen ++ [v]) := fun x hx => by
  by_cases e : x = v
  · subst e
    refine ⟨fun _ => by simp [hr], fun hn => absurd (List.mem_append_right _ (List.mem_singleton.2 rfl)) hn⟩
  · have h1 := h x hx
    simp only [if_neg e]
    refine ⟨fun hm => h1.1 ?_, fun hn => h1.2 fun hm => hn (List.mem_append_left _ hm)⟩
    rcases List.mem_append.1 hm with h2 | h2
    · exact h2
    · exact absurd (List.mem_singleton.1 h2) e
theorem BkI.more {g : Nat → Int} {p : Nat} (h : BkI K g par seen) : BkI K (fun k => if k = v then (p : Int) else g k) (fun x => if x = v then p else par x) (seen ++ [v]) := fun x hx => by
  by_cases e : x = v
  · subst e
    refine ⟨fun _ => by simp, fun hn => absurd (List.mem_append_right _ (List.mem_singleton.2 rfl)) hn⟩
  · have h1 := h x hx
    simp only [if_neg e]
    refine ⟨fun hm => h1.1 ?_, fun hn => h1.2 fun hm => hn (List.mem_append_left _ hm)⟩
    rcases List.mem_append.1 hm with h2 | h2
    · exact h2
    · exact absurd (List.mem_singleton.1 h2) e

/-- The roots found among the first j nodes. -/
structure Ini (K : Nat) (root : Nat → Bool) (seen : List Nat) (j : Nat) : Prop where
  mem : ∀ v, v ∈ seen ↔ v < j ∧ root v = true
  nd : ∀ a b, a < b → b < seen.length → sn seen a ≠ sn seen b
  cnt : (seen.length : Int) = sm K (fun v => if v ∈ seen then 1 else 0)
  le : j ≤ K
theorem Ini.start : Ini K root [] 0 := ⟨fun v => ⟨fun h => (by cases h), fun h => absurd h.1 (by omega)⟩, fun a b _ h => (by simp at h), by rw [sm_zero (fun k _ => by simp)]; rfl, Nat.zero_le _⟩
theorem Ini.no (h : Ini K root seen j) (hj : j < K) (hr : root j = false) : Ini K root seen (j + 1) := by
  refine ⟨fun v => ⟨fun hm => ?_, fun ⟨h1, h2⟩ => (h.mem v).2 ⟨?_, h2⟩⟩, h.nd, h.cnt, by omega⟩
  · obtain ⟨h1, h2⟩ := (h.mem v).1 hm
    exact ⟨by omega, h2⟩
  · rcases Nat.lt_or_ge v j with h3 | h3
    · exact h3
    · obtain rfl : v = j := by omega
      rw [hr] at h2; cases h2
theorem Ini.yes (h : Ini K root seen j) (hj : j < K) (hr : root j = true) : Ini K root (seen ++ [j]) (j + 1) := by
  have hn : j ∉ seen := fun hm => by have := ((h.mem j).1 hm).1; omega
  refine ⟨fun v => ⟨fun hm => ?_, fun ⟨h1, h2⟩ => ?_⟩, fun a b hab hb => ?_, ?_, by omega⟩
  · rcases List.mem_append.1 hm with h1 | h1
    · obtain ⟨h1, h2⟩ := (h.mem v).1 h1
      exact ⟨by omega, h2⟩
    · obtain rfl := List.mem_singleton.1 h1
      exact ⟨by omega, hr⟩
  · rcases Nat.lt_or_ge v j with h3 | h3
    · exact List.mem_append_left _ ((h.mem v).2 ⟨h3, h2⟩)
    · obtain rfl : v = j := by omega
      exact List.mem_append_right _ (List.mem_singleton.2 rfl)
  · simp only [List.length_append, List.length_singleton] at hb
    rcases Nat.lt_or_ge b seen.length with h1 | h1
    · rw [sn_left h1, sn_left (by omega)]; exact h.nd a b hab h1
    · obtain rfl : b = seen.length := by omega
      rw [sn_new, sn_left hab]
      exact fun e => hn (mem_sn.2 ⟨a, hab, e⟩)
  · have h1 := h.cnt
    rw [sm_but (g := fun x => if x ∈ seen then (1 : Int) else 0) hj (fun x _ hx => by simp [hx]), ← h1]
    simp [hn]
theorem Ini.bfs (h : Ini K root seen K) : Bfs K r root par seen 0 := by
  have hr : ∀ i, i < seen.length → sn seen i < K ∧ root (sn seen i) = true := fun i hi => (h.mem _).1 (mem_sn.2 ⟨i, hi, rfl⟩)
  exact ⟨fun i hi => (hr i hi).1, h.nd, Nat.zero_le _, fun v hv hr => (h.mem v).2 ⟨hv, hr⟩, fun i hi hf => (by rw [(hr i hi).2] at hf; cases hf), fun j hj => absurd hj (by omega), h.cnt⟩
/-- The first values of the vector of parents. -/
def iniG (root : Nat → Bool) (j v : Nat) : Int := if v < j then (if root v then -1 else -2) else 0
theorem Ini.bk (h : Ini K root seen K) {g : Nat → Int} (hg : ∀ v, v < K → g v = iniG root K v) : BkS K g root par seen := fun v hv => by
  rw [hg v hv]
  unfold iniG
  rw [if_pos hv]
  refine ⟨fun hm => by rw [((h.mem v).1 hm).2]; rfl, fun hn => ?_⟩
  cases hr : root v
  · rfl
  · exact absurd ((h.mem v).2 ⟨hv, hr⟩) hn
end
/-- A list of nodes as numbers. -/
def nums (l : List Nat) : List Int := l.map fun (v : Nat) => (v : Int)
theorem nums_len (l : List Nat) : (nums l).length = l.length := by simp [nums]
theorem nums_at {l : List Nat} {i : Nat} (h : i < l.length) : (nums l)[i]?.getD 0 = (sn l i : Int) := by simp [nums, sn, h]
theorem nums_snoc (l : List Nat) (v : Nat) : nums (l ++ [v]) = nums l ++ [(v : Int)] := by simp [nums]
theorem nums_one (v : Nat) : nums [v] = [(v : Int)] := rfl
theorem nums_drop (l : List Nat) (k : Nat) : (nums l).drop k = nums (l.drop k) := by simp [nums]
/-- One value made smaller. -/
theorem sm_less {n p : Nat} {a : Nat → Int} {s : Int} (hp : p < n) : sm n (fun i => if i = p then a i - s else a i) = sm n a - s := by
  rw [sm_but (g := a) hp (fun k _ hk => if_neg hk), if_pos rfl]; omega
/-- Room is between a row and a column. -/
theorem room_rc {t : Net} {x : Nat → Nat → Int} {u v : Nat} (hu : u < t.n + t.m) (hv : v < t.n + t.m) (h : 0 < roomV t x u v) : (u < t.n ∧ ∃ j, v = t.n + j ∧ j < t.m) ∨ (v < t.n ∧ ∃ j, u = t.n + j ∧ j < t.m) := by
  by_cases h1 : u < t.n
  · by_cases h2 : v < t.n
    · rw [roomV_ii h1 h2] at h; omega
    · exact .inl ⟨h1, v - t.n, by omega, by omega⟩
  · by_cases h2 : v < t.n
    · exact .inr ⟨h2, u - t.n, by omega, by omega⟩
    · rw [roomV_jj (by omega) (by omega)] at h; omega
/-- The place of a node in a list. -/
def plc : List Nat → Nat → Nat
  | [], _ => 0
  | a :: l, v => if a = v then 0 else plc l v + 1
theorem plc_sn : ∀ {l : List Nat} {i : Nat}, (∀ a b, a < b → b < l.length → sn l a ≠ sn l b) → i < l.length → plc l (sn l i) = i
  | [], i, _, h => absurd h (by simp)
  | a :: l, 0, _, _ => by simp [plc, sn]
  | a :: l, i + 1, hn, h => by
    have h1 : a ≠ sn l i := by
      have := hn 0 (i + 1) (by omega) h
      simpa [sn] using this
    have h2 := plc_sn (l := l) (i := i) (fun a' b' hab hb => by
      have := hn (a' + 1) (b' + 1) (by omega) (by simp; omega)
      simpa [sn] using this) (by simp at h; omega)
    have h3 : sn (a :: l) (i + 1) = sn l i := by simp [sn]
    rw [h3]
    simp only [plc, if_neg h1, h2]
/-- What is left of the sums is bounded by them. -/
theorem Net.Part.left {t : Net} {x : Nat → Nat → Int} {a b : Nat → Int} (h : t.Part x a b) (hl : ∀ i j, i < t.n → j < t.m → 0 ≤ t.lo i j) : (∀ i, i < t.n → a i ≤ t.R i) ∧ ∀ j, j < t.m → b j ≤ t.C j := by
  refine ⟨fun i hi => ?_, fun j hj => ?_⟩
  · have h1 := h.row i hi
    have h2 : 0 ≤ sm t.m (x i) := sm_nonneg fun j hj => by have := h.ge i j hi hj; have := hl i j hi hj; omega
    omega
  · have h1 := h.col j hj
    have h2 : 0 ≤ sm t.n (fun i => x i j) := sm_nonneg fun i hi => by have := h.ge i j hi hj; have := hl i j hi hj; omega
    omega
/-- Where the way from a place has come to. -/
def Here (par : Nat → Nat) (seen : List Nat) (i0 : Nat) (l : List Nat) (i : Nat) : Prop := match l.getLast? with
  | none => sn seen i = sn seen i0
  | some a => sn seen i = par (sn seen a)
theorem Here.start {par : Nat → Nat} {seen : List Nat} {i0 : Nat} : Here par seen i0 [] i0 := rfl
theorem Here.snoc {par : Nat → Nat} {seen l : List Nat} {i0 i j : Nat} (h : par (sn seen i) = sn seen j) : Here par seen i0 (l ++ [i]) j := by
  unfold Here
  rw [List.getLast?_concat]
  exact h.symm
theorem Here.one {par : Nat → Nat} {seen l : List Nat} {i0 i j : Nat} (h : Here par seen i0 l i) (h2 : Here par seen i0 l j) : sn seen i = sn seen j := by
  unfold Here at h h2
  cases e : l.getLast? <;> rw [e] at h h2 <;> exact h.trans h2.symm
theorem Along.congr0 {K : Nat} {r r' r2 : Nat → Nat → Int} {seen : List Nat} {i b : Nat} {s : Int} (h : Along K r r' seen i b s) (he : ∀ u v, r2 u v = r' u v) : Along K r r2 seen i b s := ⟨h.sent.congr0 he, fun p q hpq hq => by rw [he]; exact h.same p q hpq hq⟩
end Flo
end
end Go.Proofs.Ytcjmapdeopffcaa
