/- Several small texts in one: Fam, Net, AppG, NetM. -/
import Derived.Test.YtcjmapdeopffcaaHf
import Derived.Test.YtcjmapdeopffcaaZa
import Derived.Deep.AppendLies
namespace Go.Proofs.Ytcjmapdeopffcaa

section
open Go.RowKit Flo
set_option linter.unusedVariables false

/-- A list: its block, its capacity, its numbers. -/
structure Rw where
  b : Nat
  c : Nat
  xs : List Int
abbrev Rw.A (r : Rw) : Option Addr := some ⟨r.b, 0, none⟩
/-- A family: some of its members are there; no two share a block. -/
structure Fam (w : World) (B : Nat) (f : Nat → Option Rw) : Prop where
  own : ∀ i r, f i = some r → Own w B r.A r.xs.length r.c r.xs
  ne : ∀ i j r s, f i = some r → f j = some s → i ≠ j → r.b ≠ s.b
def upF (f : Nat → Option Rw) (i : Nat) (r : Rw) : Nat → Option Rw := fun j => if j = i then some r else f j
section
variable {w w' : World} {B i j n c c2 : Nat} {f : Nat → Option Rw} {r s : Rw} {A A2 : Option Addr} {v : Int} {xs : List Int}
theorem upF_at : upF f i r i = some r := by simp [upF]
theorem upF_ne (h : j ≠ i) : upF f i r j = f j := by simp [upF, h]
theorem Fam.lt (h : Fam w B f) (hi : f i = some r) : B ≤ r.b ∧ r.b < w.heap.size := (h.own i r hi).row_ge r.b rfl
theorem Fam.keep (h : Fam w B f) (hk : ∀ i r, f i = some r → w'.heap[r.b]? = w.heap[r.b]?) : Fam w' B f :=
  ⟨fun i r hi => (h.own i r hi).keep fun g e _ => by
    have e1 : r.b = g := congrArg Addr.block (Option.some.inj e)
    rw [← e1]; exact hk i r hi, h.ne⟩
theorem Fam.nil : Fam w B (fun _ => none) := ⟨fun _ _ h => (by cases h), fun _ _ _ _ h => (by cases h)⟩
theorem Fam.below (h : Fam w B f) (hb : Below w.heap.size w w') : Fam w' B f := h.keep fun i r hi => hb.block _ (h.lt hi).2
theorem Fam.chg {lo hi : Nat} (h : Fam w B f) (hc : Chg lo hi w w') (hd : hi ≤ B) : Fam w' B f := h.keep fun i r hr => hc.block _ (h.lt hr).2 (.inr (by have := (h.lt hr).1; omega))
theorem Fam.mono {B' : Nat} (h : Fam w B f) (hB : B' ≤ B) : Fam w B' f := ⟨fun i r hi => (h.own i r hi).mono hB, h.ne⟩
/-- A new content of one member, in its own block or a new one. -/
theorem Fam.put (h : Fam w B f) (ho : Own w' B r.A r.xs.length r.c r.xs) (hk : ∀ j s, j ≠ i → f j = some s → s.b ≠ r.b ∧ w'.heap[s.b]? = w.heap[s.b]?) : Fam w' B (upF f i r) := by
  refine ⟨fun j s hj => ?_, fun j k s u hj hk2 hjk => ?_⟩
  · by_cases e : j = i
    · subst e
      rw [upF_at] at hj
      obtain rfl := Option.some.inj hj
      exact ho
    · rw [upF_ne e] at hj
      exact (h.own j s hj).keep fun g e1 _ => by
        have e2 : s.b = g := congrArg Addr.block (Option.some.inj e1)
        rw [← e2]; exact (hk j s e hj).2
  · by_cases e : j = i
    · subst e
      rw [upF_at] at hj
      obtain rfl := Option.some.inj hj
      rw [upF_ne (fun e => hjk e.symm)] at hk2
      exact fun e2 => (hk k u (fun e => hjk e.symm) hk2).1 e2.symm
    · rw [upF_ne e] at hj
      by_cases e2 : k = i
      · subst e2
        rw [upF_at] at hk2
        obtain rfl := Option.some.inj hk2
        exact (hk j s e hj).1
      · rw [upF_ne e2] at hk2
        exact h.ne j k s u hj hk2 hjk
theorem Fam.store (h : Fam w B f) (hi : f i = some r) (j : Nat) (v : Int) : Fam (w.setCell ⟨r.b, j, none⟩ (.int .i64 v)) B (upF f i ⟨r.b, r.c, r.xs.set j v⟩) := by
  have ho := (h.own i r hi).set (k := j) (x := v)
  have hl : (r.xs.set j v).length = r.xs.length := by simp
  refine h.put (r := ⟨r.b, r.c, r.xs.set j v⟩) (by show Own _ B _ (r.xs.set j v).length r.c _; rw [hl]; exact ho) fun k s hk hs => ?_
  have hne := h.ne k i s r hs hi hk
  exact ⟨hne, Below.heap_setCell w ⟨r.b, j, none⟩ _ s.b hne⟩
/-- The slice of a member, nil where there is none. -/
def Sl (f : Nat → Option Rw) (i : Nat) (A : Option Addr) (c : Nat) (xs : List Int) : Prop := (f i = none ∧ A = none ∧ c = 0 ∧ xs = []) ∨ ∃ r, f i = some r ∧ A = r.A ∧ c = r.c ∧ xs = r.xs
theorem Sl.own (h : Sl f i A c xs) (hf : Fam w B f) : Own w B A xs.length c xs := by
  rcases h with ⟨_, rfl, rfl, rfl⟩ | ⟨r, h1, rfl, rfl, rfl⟩
  · exact Own.nil_
  · exact hf.own i r h1
theorem Fam.app (h : Fam w B f) (hs : Sl f i A c xs) (ho : Own w' B A2 (xs.length + 1) c2 (xs ++ [v])) (hg : w.grownBy w' (rowOf A)) (hd : rowOf A2 = rowOf A ∨ rowOf A2 = some (w.heap.size + 1)) :
    ∃ b, A2 = some ⟨b, 0, none⟩ ∧ Fam w' B (upF f i ⟨b, c2, xs ++ [v]⟩) ∧ (rowOf A = some b ∨ w.heap.size < b) := by
  obtain ⟨b, rfl, hb1, hb2⟩ := ho.head (by omega)
  have hl : (xs ++ [v]).length = xs.length + 1 := by simp
  have hnew : rowOf A = some b ∨ w.heap.size < b := by
    rcases hd with h1 | h1
    · exact .inl h1.symm
    · have : b = w.heap.size + 1 := Option.some.inj h1
      exact .inr (by omega)
  refine ⟨b, rfl, h.put (r := ⟨b, c2, xs ++ [v]⟩) (by show Own _ B _ (xs ++ [v]).length c2 _; rw [hl]; exact ho) fun j s hj hs2 => ?_, hnew⟩
  have hlt := h.lt hs2
  have hne : s.b ≠ b ∧ some s.b ≠ rowOf A := by
    rcases hs with ⟨_, rfl, _, _⟩ | ⟨r, h1, rfl, _, _⟩
    · refine ⟨?_, fun e => by cases e⟩
      rcases hnew with h2 | h2
      · cases h2
      · show s.b ≠ b; omega
    · have h3 := h.ne j i s r hs2 h1 hj
      refine ⟨?_, fun e => h3 (Option.some.inj e)⟩
      rcases hnew with h2 | h2
      · have : r.b = b := Option.some.inj h2
        show s.b ≠ b; rw [← this]; exact h3
      · show s.b ≠ b; omega
  exact ⟨hne.1, hg.block _ hlt.2 hne.2⟩
theorem Fam.new (h : Fam w B f) (ho : Own w' B r.A r.xs.length r.c r.xs) (hb : w.heap.size ≤ r.b) (hg : ∀ k, k < w.heap.size → w'.heap[k]? = w.heap[k]?) : Fam w' B (upF f i r) :=
  h.put ho fun j s _ hs => by
    have := (h.lt hs).2
    exact ⟨by omega, hg _ this⟩
/-- A block of another kind turns. -/
theorem Fam.far {g k : Nat} {u : Value} {T : TypeId} {cs : Array Value} (h : Fam w B f) (hg : w.heap[g]? = some (.cells cs T (0, 0))) (hT : T ≠ 3) : Fam (w.setCell ⟨g, k, none⟩ u) B f :=
  h.keep fun i r hi => Below.heap_setCell w ⟨g, k, none⟩ u r.b fun e => own_box_ne (h.own i r hi) hg hT (by show some r.b = some g; exact congrArg some e)
theorem Fam.grown {T : TypeId} {sz : Nat} {ys : List Value} (h : Fam w B f) (hr : w.ownsRow B T sz (.slice A n c) n ys) (hT : T ≠ 3) (hg : w.grownBy w' (rowOf A)) : Fam w' B f :=
  h.keep fun i r hi => hg.block _ (h.lt hi).2 fun e => by
    rcases hr.2 with ⟨h0, _⟩ | ⟨g, cap, cur, hv, _, hh, _⟩
    · injection h0 with h0; subst h0; cases e
    · injection hv with hv
      subst hv
      exact own_box_ne (h.own i r hi) hh hT (by show some r.b = some g; exact e)
theorem Fam.cell (h : Fam w B f) (hi : f i = some r) (hj : j < r.xs.length) : w.cell? ⟨r.b, j, none⟩ = some (.int .i64 (r.xs[j]?.getD 0)) ∧ w.frozen? ⟨r.b, j, none⟩ = false := by
  obtain ⟨g, e, _, _, h1, h2⟩ := (h.own i r hi).at_ hj
  have e1 : r.b = g := congrArg Addr.block (Option.some.inj e)
  rw [e1]; exact ⟨h1, h2⟩

/-- A row of members: the first k of its n elements are the slices of members. -/
def Top (w : World) (B : Nat) (f : Nat → Option Rw) (idx : Nat → Nat) (A : Option Addr) (n c k : Nat) (L : Nat → List Int) : Prop :=
  ∃ ys, w.ownsRow B 24 1 (.slice A n c) n ys ∧ ∀ t, t < k → ∃ r, f (idx t) = some r ∧ r.xs = L t ∧ ys[t]? = some (.slice r.A (L t).length r.c)
variable {idx : Nat → Nat} {k : Nat} {L L' : Nat → List Int} {f' : Nat → Option Rw}
theorem Top.keep (h : Top w B f idx A n c k L) (hk : ∀ g, rowOf A = some g → g < w.heap.size → w'.heap[g]? = w.heap[g]?) : Top w' B f idx A n c k L := by
  obtain ⟨ys, h1, h2⟩ := h
  exact ⟨ys, row_keep h1 fun g _ e hg => hk g e hg, h2⟩
theorem Top.below (h : Top w B f idx A n c k L) (hb : Below w.heap.size w w') : Top w' B f idx A n c k L := h.keep fun g _ hg => hb.block g hg
theorem Top.fn (h : Top w B f idx A n c k L) (hf : ∀ t, t < k → ∀ r, f (idx t) = some r → r.xs = L t → ∃ r', f' (idx t) = some r' ∧ r'.xs = L' t ∧ r'.b = r.b ∧ r'.c = r.c ∧ (L' t).length = (L t).length) : Top w B f' idx A n c k L' := by
  obtain ⟨ys, h1, h2⟩ := h
  refine ⟨ys, h1, fun t ht => ?_⟩
  obtain ⟨r, e1, e2, e3⟩ := h2 t ht
  obtain ⟨r', k1, k2, k3, k4, k5⟩ := hf t ht r e1 e2
  refine ⟨r', k1, k2, ?_⟩
  rw [e3, k5, k4]
  show some (Value.slice (some ⟨r.b, 0, none⟩) _ _) = some (Value.slice (some ⟨r'.b, 0, none⟩) _ _)
  rw [k3]
/-- Members that are none of the row's turn. -/
theorem Top.other (h : Top w B f idx A n c k L) (hi : ∀ t, t < k → idx t ≠ i) : Top w B (upF f i r) idx A n c k L := h.fn fun t ht r' hr he => ⟨r', by rw [upF_ne (hi t ht)]; exact hr, he, rfl, rfl, rfl⟩
theorem Top.read (h : Top w B f idx A n c n L) (hf : Fam w B f) : IntsS w A n L := fun hn => by
  obtain ⟨ys, h1, h2⟩ := h
  obtain ⟨g, rfl, _, _⟩ := row_head h1 hn
  refine ⟨⟨g, 0, none⟩, rfl, fun t ht => ?_⟩
  obtain ⟨r, e1, e2, e3⟩ := h2 t ht
  refine ⟨r.A, r.c, ?_, ?_⟩
  · rw [Addr.add_lit, Nat.zero_add, World.ownsRow.cellAt h1 t (by omega)]; exact e3
  · rw [← e2]; exact (hf.own _ r e1).ints
end
end

section
open Go.RowKit Flo
set_option linter.unusedVariables false

def dnV (b v : Int) : Int := v.tdiv b
def upV (b v : Int) : Int := (v + b - 1).tdiv b
/-- The network whose flows are the roundings. -/
def netOf (n m : Nat) (b : Int) (x : Nat → Nat → Int) : Net where
  n := n + 1
  m := m + 1
  R := fun i => if i < n then upV b (rowS m x i) else sm m (fun j => upV b (colS n x j)) - dnV b (totS n m x)
  C := fun j => if j < m then upV b (colS n x j) else sm n (fun i => upV b (rowS m x i)) - dnV b (totS n m x)
  lo := fun i j => if i < n ∧ j < m then dnV b (x i j) else 0
  hi := fun i j => if i < n ∧ j < m then upV b (x i j) else if i < n then upV b (rowS m x i) - dnV b (rowS m x i) else if j < m then upV b (colS n x j) - dnV b (colS n x j) else upV b (totS n m x) - dnV b (totS n m x)
section
variable {b v w : Int}
theorem dnV_bd (hb : 2 ≤ b) (hv : 0 ≤ v) : 0 ≤ dnV b v ∧ dnV b v ≤ upV b v ∧ upV b v ≤ v ∧ b * dnV b v ≤ v ∧ v ≤ b * upV b v ∧ b * upV b v ≤ v + b - 1 ∧ v < b * dnV b v + b := by
  have e1 : dnV b v = v / b := Int.tdiv_eq_ediv_of_nonneg hv
  have e2 : upV b v = (v + b - 1) / b := Int.tdiv_eq_ediv_of_nonneg (by omega)
  rw [e1, e2]
  have h1 : b * (v / b) + v % b = v := Int.mul_ediv_add_emod v b
  have h2 := Int.emod_nonneg v (show b ≠ 0 by omega)
  have h3 := Int.emod_lt_of_pos v (show 0 < b by omega)
  have h4 : b * ((v + b - 1) / b) + (v + b - 1) % b = v + b - 1 := Int.mul_ediv_add_emod (v + b - 1) b
  have h5 := Int.emod_nonneg (v + b - 1) (show b ≠ 0 by omega)
  have h6 := Int.emod_lt_of_pos (v + b - 1) (show 0 < b by omega)
  have h7 : 0 ≤ v / b := Int.ediv_nonneg hv (by omega)
  have h8 : v / b ≤ (v + b - 1) / b := Int.ediv_le_ediv (by omega) (by omega)
  refine ⟨h7, h8, ?_, by omega, by omega, by omega, by omega⟩
  have h9 : (v + b - 1) / b < v + 1 := by
    apply Int.ediv_lt_of_lt_mul (by omega)
    have h10 : (v + 1) * b = v * b + b := by rw [Int.add_mul]; omega
    rw [h10]
    have h11 : v * 2 ≤ v * b := Int.mul_le_mul_of_nonneg_left hb hv
    omega
  omega
theorem up_dn (hb : 2 ≤ b) (hv : 0 ≤ v) : upV b v - dnV b v ≤ 1 := by
  obtain ⟨_, _, _, _, _, h6, h7⟩ := dnV_bd hb hv
  apply Int.not_lt.1
  intro h
  have h8 : b * 2 ≤ b * (upV b v - dnV b v) := Int.mul_le_mul_of_nonneg_left (by omega) (by omega)
  rw [Int.mul_sub] at h8
  omega
theorem sm_mul {n : Nat} {f : Nat → Int} {c : Int} : sm n (fun k => c * f k) = c * sm n f := by
  induction n with
  | zero => simp [sm]
  | succ n ih => simp only [sm]; rw [ih, Int.mul_add]
/-- The sum of the rounded up numbers against the rounded down sum. -/
theorem ups_bd {n : Nat} {f : Nat → Int} (hb : 2 ≤ b) (hf : ∀ k, k < n → 0 ≤ f k) (hn : n ≤ 8) : 0 ≤ sm n (fun k => upV b (f k)) - dnV b (sm n f) ∧ sm n (fun k => upV b (f k)) - dnV b (sm n f) ≤ 9 := by
  have h0 : 0 ≤ sm n f := sm_nonneg hf
  have h1 := dnV_bd hb h0
  have h2 : sm n f ≤ b * sm n (fun k => upV b (f k)) := by
    rw [← sm_mul]
    exact sm_le fun k hk => (dnV_bd hb (hf k hk)).2.2.2.2.1
  have h3 : b * sm n (fun k => upV b (f k)) ≤ sm n f + n * (b - 1) := by
    rw [← sm_mul]
    have h4 : sm n (fun k => b * upV b (f k)) ≤ sm n (fun k => f k + (b - 1)) := sm_le fun k hk => by have := (dnV_bd hb (hf k hk)).2.2.2.2.2.1; omega
    have h5 : ∀ N : Nat, sm N (fun _ => b - 1) = N * (b - 1) := fun N => by
      induction N with
      | zero => simp [sm]
      | succ N ih => simp only [sm]; rw [ih]; rw [Int.natCast_add, Int.add_mul]; simp
    rw [sm_add, h5] at h4
    exact h4
  generalize sm n (fun k => upV b (f k)) = S at *
  generalize sm n f = T at *
  have h4 : b * dnV b T ≤ b * S := Int.le_trans h1.2.2.2.1 h2
  have h5 : dnV b T ≤ S := Int.le_of_mul_le_mul_left h4 (by omega)
  refine ⟨by omega, ?_⟩
  apply Int.not_lt.1
  intro h6
  have h7 : b * 10 ≤ b * (S - dnV b T) := Int.mul_le_mul_of_nonneg_left (by omega) (by omega)
  rw [Int.mul_sub] at h7
  have h8 : (n : Int) * (b - 1) ≤ 8 * (b - 1) := Int.mul_le_mul_of_nonneg_right (by omega) (by omega)
  have h9 := h1.2.2.2.2.2.2
  omega
end
theorem colS_sum {n m : Nat} {x : Nat → Nat → Int} : sm m (colS n x) = totS n m x := by
  unfold totS
  exact (sm_swap (f := x)).symm
/-- What a matrix must be. -/
structure MxB (n m : Nat) (b : Int) (x : Nat → Nat → Int) : Prop where
  n1 : 1 ≤ n
  n7 : n ≤ 7
  m1 : 1 ≤ m
  m7 : m ≤ 7
  b2 : 2 ≤ b
  b100 : b ≤ 100
  x : ∀ i j, i < n → j < m → 0 ≤ x i j ∧ x i j ≤ 10000
theorem MxB.sums {n m : Nat} {b : Int} {x : Nat → Nat → Int} (h : MxB n m b x) : (∀ i, i < n → 0 ≤ rowS m x i ∧ rowS m x i ≤ 70000) ∧ (∀ j, j < m → 0 ≤ colS n x j ∧ colS n x j ≤ 70000) ∧ 0 ≤ totS n m x ∧ totS n m x ≤ 490000 := by
  have h0 := h.m7
  have h9 := h.n7
  have h1 : ∀ i, i < n → 0 ≤ rowS m x i ∧ rowS m x i ≤ 70000 := fun i hi => by
    have h := sm_bd (n := m) (f := x i) (b := 10000) (fun k hk => h.x i k hi hk)
    unfold rowS; omega
  refine ⟨h1, fun j hj => ?_, ?_⟩
  · have h := sm_bd (n := n) (f := fun i => x i j) (b := 10000) (fun k hk => h.x k j hk hj)
    unfold colS; omega
  · have h := sm_bd (n := n) (f := rowS m x) (b := 70000) h1
    unfold totS; omega
theorem MxB.netB {n m : Nat} {b : Int} {x : Nat → Nat → Int} (h : MxB n m b x) : NetB (netOf n m b x) := by
  obtain ⟨s1, s2, s3, s4⟩ := h.sums
  have hn := h.n7
  have hm := h.m7
  have u1 : 0 ≤ sm m (fun j => upV b (colS n x j)) - dnV b (sm m (colS n x)) ∧ sm m (fun j => upV b (colS n x j)) - dnV b (sm m (colS n x)) ≤ 9 := ups_bd (f := colS n x) h.b2 (fun k hk => (s2 k hk).1) (show m ≤ 8 by omega)
  have u2 : 0 ≤ sm n (fun i => upV b (rowS m x i)) - dnV b (totS n m x) ∧ sm n (fun i => upV b (rowS m x i)) - dnV b (totS n m x) ≤ 9 := ups_bd (f := rowS m x) h.b2 (fun k hk => (s1 k hk).1) (show n ≤ 8 by omega)
  rw [colS_sum] at u1
  refine ⟨by show 1 ≤ n + 1; omega, by show n + 1 ≤ 8; omega, by show 1 ≤ m + 1; omega, by show m + 1 ≤ 8; omega, fun i _ => ?_, fun j _ => ?_, fun i j _ _ => ?_⟩
  · by_cases e : i < n
    · have e0 : (netOf n m b x).R i = upV b (rowS m x i) := if_pos e
      rw [e0]
      have := dnV_bd h.b2 (s1 i e).1
      have := s1 i e
      omega
    · have e0 : (netOf n m b x).R i = sm m (fun j => upV b (colS n x j)) - dnV b (totS n m x) := if_neg e
      rw [e0]
      omega
  · by_cases e : j < m
    · have e0 : (netOf n m b x).C j = upV b (colS n x j) := if_pos e
      rw [e0]
      have := dnV_bd h.b2 (s2 j e).1
      have := s2 j e
      omega
    · have e0 : (netOf n m b x).C j = sm n (fun i => upV b (rowS m x i)) - dnV b (totS n m x) := if_neg e
      rw [e0]
      omega
  · by_cases e : i < n ∧ j < m
    · have h1 := dnV_bd h.b2 (h.x i j e.1 e.2).1
      have h2 := h.x i j e.1 e.2
      simp only [netOf, if_pos e]
      omega
    · simp only [netOf, if_neg e]
      by_cases e1 : i < n
      · simp only [if_pos e1]
        have := dnV_bd h.b2 (s1 i e1).1
        have := s1 i e1
        omega
      · simp only [if_neg e1]
        by_cases e2 : j < m
        · simp only [if_pos e2]
          have := dnV_bd h.b2 (s2 j e2).1
          have := s2 j e2
          omega
        · simp only [if_neg e2]
          have := dnV_bd h.b2 s3
          have := up_dn h.b2 s3
          omega
end

section
open Go.RowKit

section
variable {wr : World} {cs : Array Value} {T TS : TypeId} {i0 : TypeInfo} {z : Value} {sz bytes : Nat} {ops : Array Oper} {o : Oper} {a : Act} {Q : Exit → Act → World → Prop}
theorem step_appG {K : Act → World → Prop} {E : Prop} (hgd : o.guard = none) (s x : Operand)
    (ho : o.op = .call { callee := .builtin .append, args := #[s, x], argTypes := #[TS, TS] }) (hT : (Try.prog).underlying TS = some (.slice T)) (hi : (Try.prog).info? T = some i0) (hz : i0.zero = some z) (h1 : i0.size = sz) (h2 : i0.bytes = bytes) (h3 : z.cells.size = sz) (h4 : 0 < sz) (h5 : bytes ≤ 64)
    (hcs : cs.size = sz) (hone : ∀ u ∈ cs.toList, u.oneCell' = true)
    (B : Nat) (A : Option Addr) (n c : Nat) (ys : List Value) (hs : a.eval s = .slice A n c) (hown : wr.ownsRow B T sz (.slice A n c) n ys)
    (g : Nat) (hx : a.eval x = .slice (some ⟨g, 0, none⟩) 1 1) (hg : g = wr.heap.size) (hsz : n + 1 ≤ 1099511627776) (hB : B ≤ wr.heap.size)
    (h : ∀ A2 c2 w', w'.ownsRow B T sz (.slice A2 (n + 1) c2) (n + 1) (ys ++ cs.toList) → wr.grownBy w' (rowOf A) → (rowOf A2 = rowOf A ∨ rowOf A2 = some (wr.heap.size + 1)) → K (a.put o.dst (.slice A2 (n + 1) c2)) w') :
    if Region.wanted o (yielded ops a.tmps) = true then Oper.wp Try.prog o a (wr.alloc (.cells cs T)) K Q else E := by
  have hw : Region.wanted o (yielded ops a.tmps) = true := by simp [Region.wanted, hgd]
  rw [if_pos hw]
  subst hg
  have hby : (n + 1) * bytes ≤ 140737488355328 := Nat.le_trans (Nat.mul_le_mul hsz h5) (by decide)
  refine wp_append_lies (P := Try.prog) _ s x TS ho B T i0 z sz bytes hT hi hz h1 h2 h3 h4 (.slice A n c) n ys hs (hown.alloc _) ⟨wr.heap.size, 0, none⟩ 1 1 cs.toList hx (by simpa using hcs) (World.news_of_block (cs := cs) (t := T) (fr := (0, 0)) (heap_alloc_new wr _)) hone (by omega) (by unfold maxLen; omega) hby (by simp; omega) (wr.heap.size + 1) (by simp) ?_
  intro g2 cap w' h1 h2 h3 _
  rw [ownBlock_row] at h2 h3
  refine h (some ⟨g2, 0, none⟩) cap w' h1 (grownBy_trans (World.grownBy_alloc wr _ _) h2) ?_
  rcases h3 with h3 | h3
  · exact .inl h3.symm
  · exact .inr (by rw [h3]; rfl)
theorem step_appGd {K : Act → World → Prop} {E : Prop} (hgd : o.guard = none) (s x : Operand)
    (ho : o.op = .call { callee := .builtin .append, args := #[s, x], argTypes := #[TS, TS] }) (hT : (Try.prog).underlying TS = some (.slice T)) (hi : (Try.prog).info? T = some i0) (hz : i0.zero = some z) (h1 : i0.size = sz) (h2 : i0.bytes = bytes) (h3 : z.cells.size = sz) (h4 : 0 < sz) (h5 : bytes ≤ 64)
    (hcs : cs.size = sz) (hone : ∀ u ∈ cs.toList, u.oneCell' = true)
    (B : Nat) (A : Option Addr) (n c : Nat) (ys : List Value) (hs : a.eval s = .slice A n c) (hown : wr.ownsRow B T sz (.slice A n c) n ys)
    (g : Nat) (hx : a.eval x = .slice (some ⟨g, 0, none⟩) 1 1) (hg : g = wr.heap.size) (hsz : n + 1 ≤ 1099511627776) (hB : B ≤ wr.heap.size)
    (h : ∀ A2 c2 w', w'.ownsRow B T sz (.slice A2 (n + 1) c2) (n + 1) (ys ++ cs.toList) → wr.grownBy w' (rowOf A) → (rowOf A2 = rowOf A ∨ rowOf A2 = some (wr.heap.size + 1)) → K (a.put o.dst (.slice A2 (n + 1) c2)) w') :
    if Region.wanted o (yielded ops a.tmps) = true then Oper.wp Try.prog o a (World.drew (wr.alloc (.cells cs T))) K Q else E := by
  have hw : Region.wanted o (yielded ops a.tmps) = true := by simp [Region.wanted, hgd]
  rw [if_pos hw]
  subst hg
  have hby : (n + 1) * bytes ≤ 140737488355328 := Nat.le_trans (Nat.mul_le_mul hsz h5) (by decide)
  refine wp_append_lies (P := Try.prog) _ s x TS ho B T i0 z sz bytes hT hi hz h1 h2 h3 h4 (.slice A n c) n ys hs ((hown.alloc _).drew) ⟨wr.heap.size, 0, none⟩ 1 1 cs.toList hx (by simpa using hcs) (World.news_of_block (cs := cs) (t := T) (fr := (0, 0)) (show (World.drew (wr.alloc (.cells cs T))).heap[wr.heap.size]? = some (.cells cs T (0, 0)) from heap_alloc_new wr _)) hone (by omega) (by unfold maxLen; omega) hby (by simp; omega) (wr.heap.size + 1) (by simp) ?_
  intro g2 cap w' h1 h2 h3 _
  rw [ownBlock_row] at h2 h3
  refine h (some ⟨g2, 0, none⟩) cap w' h1 (grownBy_trans (World.grownBy_alloc wr _ _) ⟨h2.os, h2.tape, h2.output, h2.size, h2.block⟩) ?_
  rcases h3 with h3 | h3
  · exact .inl h3.symm
  · exact .inr (by rw [h3]; rfl)
theorem wp_appG {rest : List Oper} (hgd : o.guard = none) (s x : Operand)
    (ho : o.op = .call { callee := .builtin .append, args := #[s, x], argTypes := #[TS, TS] }) (hT : (Try.prog).underlying TS = some (.slice T)) (hi : (Try.prog).info? T = some i0) (hz : i0.zero = some z) (h1 : i0.size = sz) (h2 : i0.bytes = bytes) (h3 : z.cells.size = sz) (h4 : 0 < sz) (h5 : bytes ≤ 64)
    (hcs : cs.size = sz) (hone : ∀ u ∈ cs.toList, u.oneCell' = true)
    (B : Nat) (A : Option Addr) (n c : Nat) (ys : List Value) (hs : a.eval s = .slice A n c) (hown : wr.ownsRow B T sz (.slice A n c) n ys)
    (g : Nat) (hx : a.eval x = .slice (some ⟨g, 0, none⟩) 1 1) (hg : g = wr.heap.size) (hsz : n + 1 ≤ 1099511627776) (hB : B ≤ wr.heap.size)
    (h : ∀ A2 c2 w', w'.ownsRow B T sz (.slice A2 (n + 1) c2) (n + 1) (ys ++ cs.toList) → wr.grownBy w' (rowOf A) → (rowOf A2 = rowOf A ∨ rowOf A2 = some (wr.heap.size + 1)) → wpList Try.prog ops Q rest (a.put o.dst (.slice A2 (n + 1) c2)) w') :
    wpList Try.prog ops Q (o :: rest) a (wr.alloc (.cells cs T)) := by
  subst hg
  have hby : (n + 1) * bytes ≤ 140737488355328 := Nat.le_trans (Nat.mul_le_mul hsz h5) (by decide)
  refine wpList_append_lies (P := Try.prog) _ hgd s x TS ho B T i0 z sz bytes hT hi hz h1 h2 h3 h4 (.slice A n c) n ys hs (hown.alloc _) ⟨wr.heap.size, 0, none⟩ 1 1 cs.toList hx (by simpa using hcs) (World.news_of_block (cs := cs) (t := T) (fr := (0, 0)) (heap_alloc_new wr _)) hone (by omega) (by unfold maxLen; omega) hby (by simp; omega) (wr.heap.size + 1) (by simp) ?_
  intro g2 cap w' h1 h2 h3 _
  rw [ownBlock_row] at h2 h3
  refine h (some ⟨g2, 0, none⟩) cap w' h1 (grownBy_trans (World.grownBy_alloc wr _ _) h2) ?_
  rcases h3 with h3 | h3
  · exact .inl h3.symm
  · exact .inr (by rw [h3]; rfl)
end
end

section
open Go.RowKit Flo
set_option linter.unusedVariables false

/-- All of the network's memory but its box. -/
structure NetM (wc w : World) (T6 B : Nat) (f : Nat → Option Rw) (D C A E : Option Addr) (kd cD kc cC ka cA ke cE : Nat) (t : Net) : Prop where
  fam : Fam w B f
  d : Sl f 0 D cD (lst kd t.R)
  c : Sl f 1 C cC (lst kc t.C)
  a : Top w B f (fun i => 4 + 2 * i) A ka cA ka (fun i => lst t.m (t.lo i))
  e : Top w B f (fun i => 5 + 2 * i) E ke cE ke (fun i => lst t.m (t.hi i))
  ne : ∀ g, rowOf A = some g → rowOf E ≠ some g
  old : Below T6 wc w
  sz : B ≤ w.heap.size
  tb : T6 < B
section
variable {wc w w' : World} {T6 B kd cD kc cC ka cA ke cE : Nat} {f : Nat → Option Rw} {D C A E : Option Addr} {t : Net} {T T1 : TypeId} {cs : Array Value}
theorem Top.ge {n c k : Nat} {idx : Nat → Nat} {L : Nat → List Int} {A : Option Addr} (h : Top w B f idx A n c k L) : ∀ g, rowOf A = some g → B ≤ g ∧ g < w.heap.size := by
  obtain ⟨ys, h1, _⟩ := h
  exact row_ge h1
/-- A row of slices and a list of numbers share no block. -/
theorem Top.ne_own {n c k m cP : Nat} {idx : Nat → Nat} {L : Nat → List Int} {A P : Option Addr} {xs : List Int} (h : Top w B f idx A n c k L) (hP : Own w B P m cP xs) : ∀ g, rowOf A = some g → rowOf P ≠ some g := fun g hg => by
  obtain ⟨ys, h1, _⟩ := h
  rcases h1.2 with ⟨h0, _⟩ | ⟨g', cap, cur, hv, _, hh, _⟩
  · injection h0 with h0; subst h0; cases hg
  · injection hv with hv
    subst hv
    obtain rfl : g' = g := Option.some.inj hg
    exact own_box_ne hP hh (by decide)
theorem NetM.below (h : NetM wc w T6 B f D C A E kd cD kc cC ka cA ke cE t) (hb : Below w.heap.size w w') : NetM wc w' T6 B f D C A E kd cD kc cC ka cA ke cE t :=
  ⟨h.fam.below hb, h.d, h.c, h.a.below hb, h.e.below hb, h.ne, h.old.trans (hb.mono (by have := h.sz; have := h.tb; omega)), Nat.le_trans h.sz hb.size, h.tb⟩
/-- An elder box turns: what is known against the elder world is forgotten. -/
theorem NetM.chgLow (h : NetM wc w T6 B f D C A E kd cD kc cC ka cA ke cE t) {g : Nat} (hc : Chg g (g + 1) w w') (hg : g < T6) : NetM w' w' T6 B f D C A E kd cD kc cC ka cA ke cE t := by
  have htb := h.tb
  exact ⟨h.fam.chg hc (by omega), h.d, h.c, h.a.keep (fun z hz hs => hc.block z hs (.inr (by have := (h.a.ge z hz).1; omega))), h.e.keep (fun z hz hs => hc.block z hs (.inr (by have := (h.e.ge z hz).1; omega))), h.ne, Below.refl _ _, Nat.le_trans h.sz hc.size, htb⟩
/-- The box of the network turns. -/
theorem NetM.box (h : NetM wc w T6 B f D C A E kd cD kc cC ka cA ke cE t) (i : Nat) (v : Value) : NetM wc (w.setCell ⟨T6, i, none⟩ v) T6 B f D C A E kd cD kc cC ka cA ke cE t := by
  have hc : Chg T6 (T6 + 1) w (w.setCell ⟨T6, i, none⟩ v) := (Chg.refl _ _ _).set (Nat.le_refl _) (by omega)
  have htb := h.tb
  exact ⟨h.fam.chg hc htb, h.d, h.c, h.a.keep (fun g hg hs => hc.block g hs (.inr (by have := (h.a.ge g hg).1; omega))), h.e.keep (fun g hg hs => hc.block g hs (.inr (by have := (h.e.ge g hg).1; omega))), h.ne, h.old.setCell (Nat.le_refl _) _, by have := h.sz; simpa using this, htb⟩
theorem Sl.other {i j c : Nat} {A : Option Addr} {xs : List Int} {r : Rw} (h : Sl f i A c xs) (hj : i ≠ j) : Sl (upF f j r) i A c xs := by
  rcases h with ⟨h1, h2⟩ | ⟨s, h1, h2⟩
  · exact .inl ⟨by rw [upF_ne hj]; exact h1, h2⟩
  · exact .inr ⟨s, by rw [upF_ne hj]; exact h1, h2⟩
theorem Sl.now {i : Nat} {r : Rw} : Sl (upF f i r) i r.A r.c r.xs := .inr ⟨r, upF_at, rfl, rfl, rfl⟩
/-- One number more for a list that is none of the network's rows yet, nor its sums. -/
theorem NetM.row (h : NetM wc w T6 B f D C A E kd cD kc cC ka cA ke cE t) {i cP c2 : Nat} {P P2 : Option Addr} {xs : List Int} {v : Int} (h0 : i ≠ 0) (h1 : i ≠ 1) (ha : ∀ q, q < ka → 4 + 2 * q ≠ i) (he : ∀ q, q < ke → 5 + 2 * q ≠ i)
    (hs : Sl f i P cP xs) (ho : Own w' B P2 (xs.length + 1) c2 (xs ++ [v])) (hg : w.grownBy w' (rowOf P)) (hd : rowOf P2 = rowOf P ∨ rowOf P2 = some (w.heap.size + 1)) :
    ∃ b, P2 = some ⟨b, 0, none⟩ ∧ NetM wc w' T6 B (upF f i ⟨b, c2, xs ++ [v]⟩) D C A E kd cD kc cC ka cA ke cE t := by
  obtain ⟨b, e, hf, _⟩ := h.fam.app hs ho hg hd
  have hP := hs.own h.fam
  have htb := h.tb
  refine ⟨b, e, hf, h.d.other h0.symm, h.c.other h1.symm, (h.a.keep fun g hg2 hs2 => hg.block g hs2 (fun e2 => h.a.ne_own hP g hg2 e2.symm)).other ha, (h.e.keep fun g hg2 hs2 => hg.block g hs2 (fun e2 => h.e.ne_own hP g hg2 e2.symm)).other he, h.ne, h.old.grown hg (by have := h.sz; omega) (fun k hk => by have := (hP.row_ge k hk).1; omega), Nat.le_trans h.sz hg.size, htb⟩
theorem NetM.rows (h : NetM wc w T6 B f D C A E kd cD kc cC ka cA ke cE t) {c2 : Nat} {D2 : Option Addr} {v : Int} (hv : v = t.R kd) (ho : Own w' B D2 (kd + 1) c2 (lst kd t.R ++ [v])) (hg : w.grownBy w' (rowOf D)) (hd : rowOf D2 = rowOf D ∨ rowOf D2 = some (w.heap.size + 1)) :
    ∃ b, D2 = some ⟨b, 0, none⟩ ∧ NetM wc w' T6 B (upF f 0 ⟨b, c2, lst kd t.R ++ [v]⟩) D2 C A E (kd + 1) c2 kc cC ka cA ke cE t := by
  obtain ⟨b, e, hf, _⟩ := h.fam.app h.d (by rw [lst_len]; exact ho) hg hd
  have hP := h.d.own h.fam
  have htb := h.tb
  subst e
  refine ⟨b, rfl, hf, ?_, h.c.other (by decide), (h.a.keep fun g hg2 hs2 => hg.block g hs2 (fun e2 => h.a.ne_own hP g hg2 e2.symm)).other (fun q _ => by omega), (h.e.keep fun g hg2 hs2 => hg.block g hs2 (fun e2 => h.e.ne_own hP g hg2 e2.symm)).other (fun q _ => by omega), h.ne, h.old.grown hg (by have := h.sz; omega) (fun k hk => by have := (hP.row_ge k hk).1; omega), Nat.le_trans h.sz hg.size, htb⟩
  have h1 := Sl.now (f := f) (i := 0) (r := ⟨b, c2, lst kd t.R ++ [v]⟩)
  rw [lst_snoc, ← hv]
  exact h1
theorem NetM.cols (h : NetM wc w T6 B f D C A E kd cD kc cC ka cA ke cE t) {c2 : Nat} {C2 : Option Addr} {v : Int} (hv : v = t.C kc) (ho : Own w' B C2 (kc + 1) c2 (lst kc t.C ++ [v])) (hg : w.grownBy w' (rowOf C)) (hd : rowOf C2 = rowOf C ∨ rowOf C2 = some (w.heap.size + 1)) :
    ∃ b, C2 = some ⟨b, 0, none⟩ ∧ NetM wc w' T6 B (upF f 1 ⟨b, c2, lst kc t.C ++ [v]⟩) D C2 A E kd cD (kc + 1) c2 ka cA ke cE t := by
  obtain ⟨b, e, hf, _⟩ := h.fam.app h.c (by rw [lst_len]; exact ho) hg hd
  have hP := h.c.own h.fam
  have htb := h.tb
  subst e
  refine ⟨b, rfl, hf, h.d.other (by decide), ?_, (h.a.keep fun g hg2 hs2 => hg.block g hs2 (fun e2 => h.a.ne_own hP g hg2 e2.symm)).other (fun q _ => by omega), (h.e.keep fun g hg2 hs2 => hg.block g hs2 (fun e2 => h.e.ne_own hP g hg2 e2.symm)).other (fun q _ => by omega), h.ne, h.old.grown hg (by have := h.sz; omega) (fun k hk => by have := (hP.row_ge k hk).1; omega), Nat.le_trans h.sz hg.size, htb⟩
  have h1 := Sl.now (f := f) (i := 1) (r := ⟨b, c2, lst kc t.C ++ [v]⟩)
  rw [lst_snoc, ← hv]
  exact h1
theorem Top.app {n c c2 : Nat} {idx : Nat → Nat} {L : Nat → List Int} {A A2 : Option Addr} {r : Rw} {ys : List Value} (h : w.ownsRow B 24 1 (.slice A n c) n ys) (h2 : ∀ t, t < n → ∃ r, f (idx t) = some r ∧ r.xs = L t ∧ ys[t]? = some (.slice r.A (L t).length r.c)) (hr : f (idx n) = some r) (he : r.xs = L n) (ho : w'.ownsRow B 24 1 (.slice A2 (n + 1) c2) (n + 1) (ys ++ [.slice r.A (L n).length r.c])) : Top w' B f idx A2 (n + 1) c2 (n + 1) L := by
  have hl : ys.length = n := by have := h.1; omega
  refine ⟨_, ho, fun t ht => ?_⟩
  rcases Nat.lt_or_ge t n with h3 | h3
  · obtain ⟨s, k1, k2, k3⟩ := h2 t h3
    exact ⟨s, k1, k2, by rw [List.getElem?_append_left (by omega)]; exact k3⟩
  · obtain rfl : t = n := by omega
    exact ⟨r, hr, he, by rw [List.getElem?_append_right (by omega), hl, Nat.sub_self]; rfl⟩
/-- One row more: the lower bounds. -/
theorem NetM.lo (h : NetM wc w T6 B f D C A E kd cD kc cC ka cA ke cE t) {c2 : Nat} {A2 : Option Addr} {r : Rw} {ys : List Value} (hys : w.ownsRow B 24 1 (.slice A ka cA) ka ys) (h2 : ∀ i, i < ka → ∃ r, f (4 + 2 * i) = some r ∧ r.xs = lst t.m (t.lo i) ∧ ys[i]? = some (.slice r.A (lst t.m (t.lo i)).length r.c)) (hr : f (4 + 2 * ka) = some r) (he : r.xs = lst t.m (t.lo ka)) (ho : w'.ownsRow B 24 1 (.slice A2 (ka + 1) c2) (ka + 1) (ys ++ [.slice r.A t.m r.c])) (hg : w.grownBy w' (rowOf A)) (hd : rowOf A2 = rowOf A ∨ rowOf A2 = some (w.heap.size + 1)) :
    NetM wc w' T6 B f D C A2 E kd cD kc cC (ka + 1) c2 ke cE t := by
  have htb := h.tb
  have hgA := row_ge hys
  refine ⟨h.fam.grown hys (by decide) hg, h.d, h.c, Top.app (L := fun i => lst t.m (t.lo i)) hys h2 hr he (by rw [lst_len]; exact ho), h.e.keep (fun g hg2 hs2 => hg.block g hs2 (fun e2 => h.ne g e2.symm hg2)), fun g hg2 hE => ?_, h.old.grown hg (by have := h.sz; omega) (fun k hk => by have := (hgA k hk).1; omega), Nat.le_trans h.sz hg.size, htb⟩
  rcases hd with h3 | h3
  · rw [h3] at hg2; exact h.ne g hg2 hE
  · rw [h3] at hg2
    obtain rfl := Option.some.inj hg2
    have := (h.e.ge _ hE).2
    omega
theorem NetM.hi (h : NetM wc w T6 B f D C A E kd cD kc cC ka cA ke cE t) {c2 : Nat} {E2 : Option Addr} {r : Rw} {ys : List Value} (hys : w.ownsRow B 24 1 (.slice E ke cE) ke ys) (h2 : ∀ i, i < ke → ∃ r, f (5 + 2 * i) = some r ∧ r.xs = lst t.m (t.hi i) ∧ ys[i]? = some (.slice r.A (lst t.m (t.hi i)).length r.c)) (hr : f (5 + 2 * ke) = some r) (he : r.xs = lst t.m (t.hi ke)) (ho : w'.ownsRow B 24 1 (.slice E2 (ke + 1) c2) (ke + 1) (ys ++ [.slice r.A t.m r.c])) (hg : w.grownBy w' (rowOf E)) (hd : rowOf E2 = rowOf E ∨ rowOf E2 = some (w.heap.size + 1)) :
    NetM wc w' T6 B f D C A E2 kd cD kc cC ka cA (ke + 1) c2 t := by
  have htb := h.tb
  have hgE := row_ge hys
  refine ⟨h.fam.grown hys (by decide) hg, h.d, h.c, h.a.keep (fun g hg2 hs2 => hg.block g hs2 (fun e2 => h.ne g hg2 e2.symm)), Top.app (L := fun i => lst t.m (t.hi i)) hys h2 hr he (by rw [lst_len]; exact ho), fun g hg2 hE => ?_, h.old.grown hg (by have := h.sz; omega) (fun k hk => by have := (hgE k hk).1; omega), Nat.le_trans h.sz hg.size, htb⟩
  rcases hd with h3 | h3
  · rw [h3] at hE; exact h.ne g hg2 hE
  · rw [h3] at hE
    obtain rfl := Option.some.inj hE
    have := (h.a.ge _ hg2).2
    omega
/-- The box behind a step. -/
theorem NetM.kept (h : NetM wc w T6 B f D C A E kd cD kc cC ka cA ke cE t) (hb : w.heap[T6]? = some (.cells cs T (0, 0))) {P : Option Addr} (hg : w.grownBy w' (rowOf P)) (hP : ∀ g, rowOf P = some g → B ≤ g) : w'.heap[T6]? = some (.cells cs T (0, 0)) :=
  box_grown hb hg (fun e => by have := hP T6 e; have := h.tb; omega)
/-- One number more for a row that is being made, and all that stays beside it. -/
theorem NetM.rowStep (h : NetM wc w T6 B f D C A E kd cD kc cC ka cA ke cE t) {i i' K j cP cQ c2 q : Nat} {P Q P2 : Option Addr} {g : Nat → Int} {ys : List Int} {v : Int} {w1 : World} (h4 : 4 ≤ i) (hii : i' ≠ i) (ha : ∀ z, z < ka → 4 + 2 * z ≠ i) (he : ∀ z, z < ke → 5 + 2 * z ≠ i) (hK : i < K)
    (hs : Sl f i P cP (lst j g)) (hs' : Sl f i' Q cQ ys) (hno : ∀ z, K ≤ z → f z = none) (hv : v = g j) (hbox : w.heap[T6]? = some (.cells cs T (0, 0))) (hb1 : Below q w1 w) (hq : q ≤ B)
    (ho : Own w' B P2 (j + 1) c2 (lst j g ++ [v])) (hg : w.grownBy w' (rowOf P)) (hd : rowOf P2 = rowOf P ∨ rowOf P2 = some (w.heap.size + 1)) :
    ∃ b f', P2 = some ⟨b, 0, none⟩ ∧ NetM wc w' T6 B f' D C A E kd cD kc cC ka cA ke cE t ∧ Sl f' i P2 c2 (lst (j + 1) g) ∧ Sl f' i' Q cQ ys ∧ (f' 2 = f 2 ∧ f' 3 = f 3) ∧ (∀ z, K ≤ z → f' z = none) ∧ w'.heap[T6]? = some (.cells cs T (0, 0)) ∧ Below q w1 w' := by
  obtain ⟨b, rfl, hN⟩ := h.row (by omega) (by omega) ha he hs (by rw [lst_len]; exact ho) hg hd
  have hP := hs.own h.fam
  refine ⟨b, _, rfl, hN, ?_, hs'.other hii, ⟨upF_ne (by omega), upF_ne (by omega)⟩, fun z hz => by rw [upF_ne (by omega)]; exact hno z hz, h.kept hbox hg (fun g' hg' => (hP.row_ge g' hg').1), hb1.grown hg (Nat.le_trans hq h.sz) (fun z hz => Nat.le_trans hq (hP.row_ge z hz).1)⟩
  rw [lst_snoc, ← hv]
  exact Sl.now
theorem Sl.some {i m c : Nat} {P : Option Addr} {xs : List Int} (h : Sl f i P c xs) (hl : xs.length = m) (hm : 1 ≤ m) : ∃ r, f i = Option.some r ∧ P = r.A ∧ c = r.c ∧ xs = r.xs := by
  rcases h with ⟨_, _, _, rfl⟩ | h
  · simp at hl; omega
  · exact h
theorem NetM.loStep (h : NetM wc w T6 B f D C A E kd cD kc cC ka cA ke cE t) {c2 cP : Nat} {A2 P : Option Addr} {ys : List Value} (hys : w.ownsRow B 24 1 (.slice A ka cA) ka ys) (h2 : ∀ i, i < ka → ∃ r, f (4 + 2 * i) = some r ∧ r.xs = lst t.m (t.lo i) ∧ ys[i]? = some (.slice r.A (lst t.m (t.lo i)).length r.c)) (hs : Sl f (4 + 2 * ka) P cP (lst t.m (t.lo ka))) (hm : 1 ≤ t.m) (hbox : w.heap[T6]? = some (.cells cs T (0, 0)))
    (ho : w'.ownsRow B 24 1 (.slice A2 (ka + 1) c2) (ka + 1) (ys ++ [.slice P t.m cP])) (hg : w.grownBy w' (rowOf A)) (hd : rowOf A2 = rowOf A ∨ rowOf A2 = some (w.heap.size + 1)) :
    w'.heap[T6]? = some (.cells cs T (0, 0)) ∧ NetM wc (w'.setCell ⟨T6, 2, none⟩ (.slice A2 (ka + 1) c2)) T6 B f D C A2 E kd cD kc cC (ka + 1) c2 ke cE t ∧ (w'.setCell ⟨T6, 2, none⟩ (.slice A2 (ka + 1) c2)).heap[T6]? = some (.cells (cs.setIfInBounds 2 (.slice A2 (ka + 1) c2)) T (0, 0)) := by
  obtain ⟨r, e1, rfl, rfl, e4⟩ := hs.some (lst_len _ _) hm
  have hb := h.kept hbox hg (fun g hg' => (h.a.ge g hg').1)
  exact ⟨hb, (h.lo hys h2 e1 e4.symm ho hg hd).box _ _, box_set hb 2 _⟩
theorem NetM.hiStep (h : NetM wc w T6 B f D C A E kd cD kc cC ka cA ke cE t) {c2 cP : Nat} {E2 P : Option Addr} {ys : List Value} (hys : w.ownsRow B 24 1 (.slice E ke cE) ke ys) (h2 : ∀ i, i < ke → ∃ r, f (5 + 2 * i) = some r ∧ r.xs = lst t.m (t.hi i) ∧ ys[i]? = some (.slice r.A (lst t.m (t.hi i)).length r.c)) (hs : Sl f (5 + 2 * ke) P cP (lst t.m (t.hi ke))) (hm : 1 ≤ t.m) (hbox : w.heap[T6]? = some (.cells cs T (0, 0)))
    (ho : w'.ownsRow B 24 1 (.slice E2 (ke + 1) c2) (ke + 1) (ys ++ [.slice P t.m cP])) (hg : w.grownBy w' (rowOf E)) (hd : rowOf E2 = rowOf E ∨ rowOf E2 = some (w.heap.size + 1)) :
    w'.heap[T6]? = some (.cells cs T (0, 0)) ∧ NetM wc (w'.setCell ⟨T6, 3, none⟩ (.slice E2 (ke + 1) c2)) T6 B f D C A E2 kd cD kc cC ka cA (ke + 1) c2 t ∧ (w'.setCell ⟨T6, 3, none⟩ (.slice E2 (ke + 1) c2)).heap[T6]? = some (.cells (cs.setIfInBounds 3 (.slice E2 (ke + 1) c2)) T (0, 0)) := by
  obtain ⟨r, e1, rfl, rfl, e4⟩ := hs.some (lst_len _ _) hm
  have hb := h.kept hbox hg (fun g hg' => (h.e.ge g hg').1)
  exact ⟨hb, (h.hi hys h2 e1 e4.symm ho hg hd).box _ _, box_set hb 3 _⟩
theorem NetM.rowsStep (h : NetM wc w T6 B f D C A E kd cD kc cC ka cA ke cE t) {c2 K : Nat} {D2 : Option Addr} {v : Int} (hK : 2 ≤ K) (hno : ∀ z, K ≤ z → f z = none) (hv : v = t.R kd) (hbox : w.heap[T6]? = some (.cells cs T (0, 0))) (ho : Own w' B D2 (kd + 1) c2 (lst kd t.R ++ [v])) (hg : w.grownBy w' (rowOf D)) (hd : rowOf D2 = rowOf D ∨ rowOf D2 = some (w.heap.size + 1)) :
    ∃ f', (w'.heap[T6]? = some (.cells cs T (0, 0)) ∧ NetM wc (w'.setCell ⟨T6, 0, none⟩ (.slice D2 (kd + 1) c2)) T6 B f' D2 C A E (kd + 1) c2 kc cC ka cA ke cE t ∧ (w'.setCell ⟨T6, 0, none⟩ (.slice D2 (kd + 1) c2)).heap[T6]? = some (.cells (cs.setIfInBounds 0 (.slice D2 (kd + 1) c2)) T (0, 0))) ∧ (∀ i, i ≠ 0 → f' i = f i) ∧ ∀ z, K ≤ z → f' z = none := by
  obtain ⟨b, _, hN⟩ := h.rows hv ho hg hd
  have hb := h.kept hbox hg (fun g hg' => ((h.d.own h.fam).row_ge g hg').1)
  exact ⟨_, ⟨hb, hN.box _ _, box_set hb 0 _⟩, fun i hi => upF_ne hi, fun z hz => by rw [upF_ne (by omega)]; exact hno z hz⟩
theorem NetM.colsStep (h : NetM wc w T6 B f D C A E kd cD kc cC ka cA ke cE t) {c2 K : Nat} {C2 : Option Addr} {v : Int} (hK : 2 ≤ K) (hno : ∀ z, K ≤ z → f z = none) (hv : v = t.C kc) (hbox : w.heap[T6]? = some (.cells cs T (0, 0))) (ho : Own w' B C2 (kc + 1) c2 (lst kc t.C ++ [v])) (hg : w.grownBy w' (rowOf C)) (hd : rowOf C2 = rowOf C ∨ rowOf C2 = some (w.heap.size + 1)) :
    ∃ f', (w'.heap[T6]? = some (.cells cs T (0, 0)) ∧ NetM wc (w'.setCell ⟨T6, 1, none⟩ (.slice C2 (kc + 1) c2)) T6 B f' D C2 A E kd cD (kc + 1) c2 ka cA ke cE t ∧ (w'.setCell ⟨T6, 1, none⟩ (.slice C2 (kc + 1) c2)).heap[T6]? = some (.cells (cs.setIfInBounds 1 (.slice C2 (kc + 1) c2)) T (0, 0))) ∧ (∀ i, i ≠ 1 → f' i = f i) ∧ ∀ z, K ≤ z → f' z = none := by
  obtain ⟨b, _, hN⟩ := h.cols hv ho hg hd
  have hb := h.kept hbox hg (fun g hg' => ((h.c.own h.fam).row_ge g hg').1)
  exact ⟨_, ⟨hb, hN.box _ _, box_set hb 1 _⟩, fun i hi => upF_ne hi, fun z hz => by rw [upF_ne (by omega)]; exact hno z hz⟩
theorem Sl.same {f' : Nat → Option Rw} {i c : Nat} {P : Option Addr} {xs : List Int} (h : Sl f i P c xs) (e : f' i = f i) : Sl f' i P c xs := by
  unfold Sl at h ⊢
  rw [e]; exact h
/-- A member under another number. -/
def mvF (f : Nat → Option Rw) (i i' : Nat) : Nat → Option Rw := fun z => if z = i' then f i else if z = i then none else f z
theorem NetM.move (h : NetM wc w T6 B f D C A E kd cD kc cC ka cA ke cE t) {i i' : Nat} (hi' : f i' = none) (h0 : 2 ≤ i) (h0' : 2 ≤ i') (hii : i ≠ i') (ha : ∀ q, q < ka → 4 + 2 * q ≠ i ∧ 4 + 2 * q ≠ i') (he : ∀ q, q < ke → 5 + 2 * q ≠ i ∧ 5 + 2 * q ≠ i') : NetM wc w T6 B (mvF f i i') D C A E kd cD kc cC ka cA ke cE t := by
  have hne : ∀ {z : Nat}, z ≠ i → z ≠ i' → mvF f i i' z = f z := fun h1 h2 => by unfold mvF; rw [if_neg h2, if_neg h1]
  have hfrom : ∀ z r, mvF f i i' z = some r → ∃ z0, f z0 = some r ∧ (z = i' → z0 = i) ∧ (z ≠ i' → z0 = z ∧ z ≠ i) := fun z r hz => by
    unfold mvF at hz
    by_cases e : z = i'
    · rw [if_pos e] at hz; exact ⟨i, hz, fun _ => rfl, fun h => absurd e h⟩
    · rw [if_neg e] at hz
      by_cases e2 : z = i
      · rw [if_pos e2] at hz; cases hz
      · rw [if_neg e2] at hz; exact ⟨z, hz, fun h => absurd h e, fun _ => ⟨rfl, e2⟩⟩
  refine ⟨⟨fun z r hz => ?_, fun z y r s hz hy hzy => ?_⟩, h.d.same (hne (by omega) (by omega)), h.c.same (hne (by omega) (by omega)), h.a.fn (fun q hq r hr hx => ⟨r, by rw [hne (ha q hq).1 (ha q hq).2]; exact hr, hx, rfl, rfl, rfl⟩), h.e.fn (fun q hq r hr hx => ⟨r, by rw [hne (he q hq).1 (he q hq).2]; exact hr, hx, rfl, rfl, rfl⟩), h.ne, h.old, h.sz, h.tb⟩
  · obtain ⟨z0, h1, _⟩ := hfrom z r hz
    exact h.fam.own z0 r h1
  · obtain ⟨z0, h1, h2, h3⟩ := hfrom z r hz
    obtain ⟨y0, k1, k2, k3⟩ := hfrom y s hy
    refine h.fam.ne z0 y0 r s h1 k1 fun e => ?_
    by_cases e1 : z = i'
    · by_cases e2 : y = i'
      · exact hzy (e1.trans e2.symm)
      · have := (k3 e2); have := h2 e1; omega
    · by_cases e2 : y = i'
      · have := (h3 e1); have := k2 e2; omega
      · have := (h3 e1); have := (k3 e2); omega
theorem mvF_at {i i' : Nat} : mvF f i i' i' = f i := by simp [mvF]
theorem mvF_ne {i i' z : Nat} (h1 : z ≠ i) (h2 : z ≠ i') : mvF f i i' z = f z := by unfold mvF; rw [if_neg h2, if_neg h1]
/-- At the end: the network that is read. -/
theorem NetM.read (h : NetM wc w T6 B f D C A E kd cD kc cC ka cA ke cE t) (h1 : kd = t.n) (h2 : kc = t.m) (h3 : ka = t.n) (h4 : ke = t.n) : NetR w D C A E t := by
  subst h1 h2 h3
  have e1 := (h.d.own h.fam).ints
  have e2 := (h.c.own h.fam).ints
  rw [lst_len] at e1 e2
  have e4 := h.e.read h.fam
  rw [h4] at e4
  exact ⟨e1, e2, h.a.read h.fam, e4⟩
end
end
end Go.Proofs.Ytcjmapdeopffcaa
