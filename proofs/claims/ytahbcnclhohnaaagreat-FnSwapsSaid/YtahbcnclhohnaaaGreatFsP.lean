/- Plain laws of swap plans: what the exchanges leave, what moved, how many pairs a plan can have. -/
import Derived.Test.YtahbcnclhohnaaaGreatZc
namespace Go.Proofs.YtahbcnclhohnaaaGreat

/-- Two records exchange area and house. -/
def swD (rs : List RecD) (i k : Nat) : List RecD := (rs.set i ⟨rA rs k, rH rs k, rV rs i⟩).set k ⟨rA rs i, rH rs i, rV rs k⟩
/-- A row of two indices. -/
def pr1 (R : List (List Int)) (j : Nat) : Nat := ((R[j]?.getD [])[0]?.getD 0).toNat
def pr2 (R : List (List Int)) (j : Nat) : Nat := ((R[j]?.getD [])[1]?.getD 0).toNat
/-- The first j exchanges. -/
def swK (rs : List RecD) (R : List (List Int)) : Nat → List RecD
  | 0 => rs
  | j + 1 => swD (swK rs R j) (pr1 R j) (pr2 R j)
/-- The other one of a pair among the first j, else the same. -/
def ptn (R : List (List Int)) : Nat → Nat → Nat
  | 0, i => i
  | j + 1, i => if i = pr1 R j then pr2 R j else if i = pr2 R j then pr1 R j else ptn R j i
/-- The first j pairs are apart, each of two indices below m. -/
def Apart (R : List (List Int)) (m j : Nat) : Prop := ∀ t, t < j → pr1 R t < m ∧ pr2 R t < m ∧ pr1 R t ≠ pr2 R t ∧ ∀ s, s < t → pr1 R s ≠ pr1 R t ∧ pr1 R s ≠ pr2 R t ∧ pr2 R s ≠ pr1 R t ∧ pr2 R s ≠ pr2 R t
theorem Apart.less {R : List (List Int)} {m j : Nat} (h : Apart R m (j + 1)) : Apart R m j := fun t ht => h t (by omega)
theorem swD_len (rs : List RecD) (i k : Nat) : (swD rs i k).length = rs.length := by simp [swD]
theorem swK_len (rs : List RecD) (R : List (List Int)) (j : Nat) : (swK rs R j).length = rs.length := by
  induction j with
  | zero => rfl
  | succ j ih => rw [swK, swD_len, ih]
theorem swD_at {rs : List RecD} {i k q : Nat} (hi : i < rs.length) (hk : k < rs.length) (hne : i ≠ k) : rX (swD rs i k) q = if q = i then ⟨rA rs k, rH rs k, rV rs i⟩ else if q = k then ⟨rA rs i, rH rs i, rV rs k⟩ else rX rs q := by
  unfold rX swD
  by_cases h1 : q = k
  · subst h1
    rw [List.getElem?_set_self (by simpa using hk), if_neg (by omega), if_pos rfl]; rfl
  · rw [List.getElem?_set_ne (fun e => h1 e.symm)]
    by_cases h2 : q = i
    · subst h2
      rw [List.getElem?_set_self hi, if_pos rfl]; rfl
    · rw [List.getElem?_set_ne (fun e => h2 e.symm), if_neg h2, if_neg h1]
theorem ptn_out {R : List (List Int)} {i : Nat} : ∀ {j : Nat}, (∀ s, s < j → pr1 R s ≠ i ∧ pr2 R s ≠ i) → ptn R j i = i
  | 0, _ => rfl
  | j + 1, h => by
    rw [ptn, if_neg (fun e => (h j (by omega)).1 e.symm), if_neg (fun e => (h j (by omega)).2 e.symm)]
    exact ptn_out (fun s hs => h s (by omega))
/-- What the exchanges leave: area and house of the other one. -/
theorem swK_at {rs : List RecD} {R : List (List Int)} : ∀ {j : Nat}, Apart R rs.length j → ∀ q, rX (swK rs R j) q = ⟨rA rs (ptn R j q), rH rs (ptn R j q), rV rs q⟩
  | 0, _, q => rfl
  | j + 1, h, q => by
    have ih := fun q => swK_at (rs := rs) h.less q
    obtain ⟨h1, h2, h3, h4⟩ := h j (by omega)
    have e1 : ptn R j (pr1 R j) = pr1 R j := ptn_out (fun s hs => ⟨(h4 s hs).1, (h4 s hs).2.2.1⟩)
    have e2 : ptn R j (pr2 R j) = pr2 R j := ptn_out (fun s hs => ⟨(h4 s hs).2.1, (h4 s hs).2.2.2⟩)
    have a1 : ∀ q, rA (swK rs R j) q = rA rs (ptn R j q) := fun q => by unfold rA; rw [ih]; rfl
    have a2 : ∀ q, rH (swK rs R j) q = rH rs (ptn R j q) := fun q => by unfold rH; rw [ih]; rfl
    have a3 : ∀ q, rV (swK rs R j) q = rV rs q := fun q => by unfold rV; rw [ih]; rfl
    rw [swK, swD_at (by rw [swK_len]; exact h1) (by rw [swK_len]; exact h2) h3, ptn]
    by_cases q1 : q = pr1 R j
    · rw [if_pos q1, if_pos q1, a1, a2, a3, e2, q1]
    · rw [if_neg q1, if_neg q1]
      by_cases q2 : q = pr2 R j
      · rw [if_pos q2, if_pos q2, a1, a2, a3, e1, q2]
      · rw [if_neg q2, if_neg q2]; exact ih q
/-- Where an index lies. -/
theorem ptn_in {R : List (List Int)} {m : Nat} : ∀ {j : Nat}, Apart R m j → ∀ t, t < j → ptn R j (pr1 R t) = pr2 R t ∧ ptn R j (pr2 R t) = pr1 R t
  | j + 1, h, t, ht => by
    rcases Nat.lt_or_ge t j with h1 | h1
    · have ih := ptn_in h.less t h1
      obtain ⟨c1, c2, c3, c4⟩ := (h j (by omega)).2.2.2 t h1
      rw [ptn, ptn, if_neg c1, if_neg c2, if_neg c3, if_neg c4]
      exact ih
    · obtain rfl : t = j := by omega
      rw [ptn, ptn, if_pos rfl, if_neg (fun e => (h t (by omega)).2.2.1 e.symm), if_pos rfl]
      exact ⟨rfl, rfl⟩
theorem ptn_cases {R : List (List Int)} : ∀ (j i : Nat), (∃ t, t < j ∧ (i = pr1 R t ∨ i = pr2 R t)) ∨ ∀ s, s < j → pr1 R s ≠ i ∧ pr2 R s ≠ i
  | 0, i => .inr fun s hs => absurd hs (by omega)
  | j + 1, i => by
    rcases ptn_cases j i with ⟨t, ht, h⟩ | h
    · exact .inl ⟨t, by omega, h⟩
    · by_cases h1 : i = pr1 R j
      · exact .inl ⟨j, by omega, .inl h1⟩
      · by_cases h2 : i = pr2 R j
        · exact .inl ⟨j, by omega, .inr h2⟩
        · refine .inr fun s hs => ?_
          rcases Nat.lt_or_ge s j with h3 | h3
          · exact h s h3
          · obtain rfl : s = j := by omega
            exact ⟨fun e => h1 e.symm, fun e => h2 e.symm⟩
theorem ptn_ptn {R : List (List Int)} {m j : Nat} (h : Apart R m j) (i : Nat) : ptn R j (ptn R j i) = i := by
  rcases ptn_cases (R := R) j i with ⟨t, ht, rfl | rfl⟩ | h1
  · rw [(ptn_in h t ht).1, (ptn_in h t ht).2]
  · rw [(ptn_in h t ht).2, (ptn_in h t ht).1]
  · rw [ptn_out h1, ptn_out h1]
theorem list_ext {xs ys : List RecD} (hl : xs.length = ys.length) (h : ∀ q, rX xs q = rX ys q) : xs = ys := by
  refine List.ext_getElem? fun q => ?_
  have hq := h q
  unfold rX at hq
  rcases Nat.lt_or_ge q xs.length with h1 | h1
  · rw [List.getElem?_eq_getElem h1, List.getElem?_eq_getElem (by omega : q < ys.length)] at hq ⊢
    exact congrArg some hq
  · rw [List.getElem?_eq_none h1, List.getElem?_eq_none (by omega)]
/-- The exchanges undo themselves. -/
theorem swK_back {rs : List RecD} {R : List (List Int)} {j : Nat} (h : Apart R rs.length j) : swK (swK rs R j) R j = rs := by
  refine list_ext (by rw [swK_len, swK_len]) fun q => ?_
  rw [swK_at (by rw [swK_len]; exact h) q]
  unfold rA rH rV
  rw [swK_at h, swK_at h]
  show (⟨rA rs (ptn R j (ptn R j q)), rH rs (ptn R j (ptn R j q)), rV rs q⟩ : RecD) = rX rs q
  rw [ptn_ptn h]; rfl
/-- Counts of what depends on the area and on something that the pair has in common. -/
theorem countP_swD {rs : List RecD} {i k : Nat} {p : RecD → Bool} (hi : i < rs.length) (hk : k < rs.length) (hne : i ≠ k) (h1 : p ⟨rA rs k, rH rs k, rV rs i⟩ = p (rX rs k)) (h2 : p ⟨rA rs i, rH rs i, rV rs k⟩ = p (rX rs i)) : (swD rs i k).countP p = rs.countP p := by
  have e1 : rs[i] = rX rs i := by unfold rX; rw [List.getElem?_eq_getElem hi]; rfl
  have e2 : rs[k] = rX rs k := by unfold rX; rw [List.getElem?_eq_getElem hk]; rfl
  have hk' : k < (rs.set i ⟨rA rs k, rH rs k, rV rs i⟩).length := by simpa using hk
  unfold swD
  rw [List.countP_set hk', List.countP_set hi, List.getElem_set_ne hne, h1, h2, e1, e2]
  have c1 : rs.countP p ≥ (if p (rX rs i) = true then 1 else 0) := by
    split
    · exact List.countP_pos_iff.2 ⟨rs[i], List.getElem_mem hi, by rw [e1]; assumption⟩
    · exact Nat.zero_le _
  by_cases a : p (rX rs i) = true <;> by_cases b : p (rX rs k) = true <;> simp only [a, b, if_true] at c1 ⊢ <;> omega
/-- How many indices lie in a list without doubles. -/
theorem count_in (m : Nat) : ∀ (L : List Nat), L.Nodup → (∀ x ∈ L, x < m) → (List.range m).countP (fun i => decide (i ∈ L)) = L.length
  | [], _, _ => by simp
  | a :: L, hn, hm => by
    have ih := count_in m L (List.nodup_cons.1 hn).2 (fun x hx => hm x (List.mem_cons_of_mem _ hx))
    have ha : a ∉ L := (List.nodup_cons.1 hn).1
    have key : ∀ l : List Nat, l.countP (fun i => decide (i ∈ a :: L)) = l.countP (fun i => decide (i = a)) + l.countP (fun i => decide (i ∈ L)) := by
      intro l
      induction l with
      | nil => rfl
      | cons x l ih2 =>
        rw [List.countP_cons, List.countP_cons, List.countP_cons, ih2]
        by_cases h1 : x = a
        · subst h1
          simp [ha]; omega
        · by_cases h2 : x ∈ L <;> simp [h1, h2] <;> omega
    have one : (List.range m).countP (fun i => decide (i = a)) = 1 := by
      have h1 := hm a (List.mem_cons_self)
      have h2 : (List.range m).count a = 1 := List.Nodup.count List.nodup_range ▸ by simp [h1]
      rw [← h2, List.count]
      congr 1
    rw [key, one, ih, List.length_cons]; omega
theorem count_le {m : Nat} {L : List Nat} {P : Nat → Bool} (hn : L.Nodup) (hm : ∀ x ∈ L, x < m ∧ P x = true) : L.length ≤ (List.range m).countP P := by
  rw [← count_in m L hn (fun x hx => (hm x hx).1)]
  refine List.countP_mono_left fun x _ hx => ?_
  exact (hm x (by simpa using hx)).2
/-- The indices of the first j pairs. -/
def flP (R : List (List Int)) : Nat → List Nat
  | 0 => []
  | j + 1 => flP R j ++ [pr1 R j, pr2 R j]
theorem flP_len (R : List (List Int)) (j : Nat) : (flP R j).length = 2 * j := by
  induction j with
  | zero => rfl
  | succ j ih => rw [flP, List.length_append, ih]; simp; omega
theorem flP_mem {R : List (List Int)} {i : Nat} : ∀ {j : Nat}, i ∈ flP R j ↔ ∃ t, t < j ∧ (i = pr1 R t ∨ i = pr2 R t)
  | 0 => by simp [flP]
  | j + 1 => by
    rw [flP, List.mem_append, flP_mem (j := j)]
    simp only [List.mem_cons, List.not_mem_nil, or_false]
    constructor
    · rintro (⟨t, h1, h2⟩ | h)
      · exact ⟨t, by omega, h2⟩
      · exact ⟨j, by omega, h⟩
    · rintro ⟨t, h1, h2⟩
      rcases Nat.lt_or_ge t j with h3 | h3
      · exact .inl ⟨t, h3, h2⟩
      · obtain rfl : t = j := by omega
        exact .inr h2
theorem flP_nodup {R : List (List Int)} {m : Nat} : ∀ {j : Nat}, Apart R m j → (flP R j).Nodup
  | 0, _ => List.nodup_nil
  | j + 1, h => by
    rw [flP, List.nodup_append]
    obtain ⟨h1, h2, h3, h4⟩ := h j (by omega)
    refine ⟨flP_nodup h.less, by simp [h3], fun a ha b hb e => ?_⟩
    subst e
    obtain ⟨t, ht, h5⟩ := flP_mem.1 ha
    have h6 := h4 t ht
    simp only [List.mem_cons, List.not_mem_nil, or_false] at hb
    rcases h5 with rfl | rfl <;> rcases hb with e | e <;> omega
/-- What moved. -/
def movB (rs qs : List RecD) (i : Nat) : Bool := !(rA rs i == rA qs i) || !(rH rs i == rH qs i)
def movL (rs qs : List RecD) : Nat → List Nat
  | 0 => []
  | i + 1 => if movB rs qs i = true then movL rs qs i ++ [i] else movL rs qs i
theorem movL_len (rs qs : List RecD) (n : Nat) : (movL rs qs n).length = (List.range n).countP (movB rs qs) := by
  induction n with
  | zero => rfl
  | succ n ih =>
    rw [movL, List.range_succ, List.countP_append]
    by_cases h : movB rs qs n = true
    · rw [if_pos h, List.length_append, ih]; simp [h]
    · rw [if_neg h, ih]; simp [h]
theorem moved_len {rs : List RecD} {R : List (List Int)} {j : Nat} (h : Apart R rs.length j) (hd : ∀ t, t < j → rA rs (pr1 R t) ≠ rA rs (pr2 R t)) : (movL rs (swK rs R j) rs.length).length = 2 * j := by
  rw [movL_len, ← flP_len R j, ← count_in rs.length (flP R j) (flP_nodup h) (fun x hx => by
    obtain ⟨t, ht, h1⟩ := flP_mem.1 hx
    rcases h1 with rfl | rfl
    · exact (h t ht).1
    · exact (h t ht).2.1)]
  refine List.countP_congr fun i _ => ?_
  have ha : rA (swK rs R j) i = rA rs (ptn R j i) := by unfold rA; rw [swK_at h]; rfl
  have hh : rH (swK rs R j) i = rH rs (ptn R j i) := by unfold rH; rw [swK_at h]; rfl
  unfold movB
  rw [ha, hh]
  rcases ptn_cases (R := R) j i with ⟨t, ht, rfl | rfl⟩ | h1
  · have h2 := hd t ht
    rw [(ptn_in h t ht).1]
    simp [h2, flP_mem]; exact ⟨t, ht, .inl rfl⟩
  · have h2 := hd t ht
    rw [(ptn_in h t ht).2]
    simp [Ne.symm h2, flP_mem]; exact ⟨t, ht, .inr rfl⟩
  · rw [ptn_out h1]
    have h2 : i ∉ flP R j := fun hm => by
      obtain ⟨t, ht, h3⟩ := flP_mem.1 hm
      have h4 := h1 t ht
      rcases h3 with e | e
      · exact h4.1 e.symm
      · exact h4.2 e.symm
    simp [h2]
/-- How many of the first j pairs have a key. -/
def prC (R : List (List Int)) (f : Nat → Int) (k : Int) (j : Nat) : Nat := (List.range j).countP (fun t => f (pr1 R t) == k)
theorem prC_succ (R : List (List Int)) (f : Nat → Int) (k : Int) (j : Nat) : prC R f k (j + 1) = prC R f k j + if (f (pr1 R j) == k) = true then 1 else 0 := by
  unfold prC
  rw [List.range_succ, List.countP_append, List.countP_singleton]
/-- How many indices below m have a key; a key and an area. -/
def kC (f : Nat → Int) (k : Int) (m : Nat) : Nat := (List.range m).countP (fun i => f i == k)
def kaC (f g : Nat → Int) (k a : Int) (m : Nat) : Nat := (List.range m).countP (fun i => f i == k && g i == a)
theorem two_prC {R : List (List Int)} {m : Nat} {f : Nat → Int} {k : Int} {j : Nat} (h : Apart R m j) (hk : ∀ t, t < j → f (pr1 R t) = f (pr2 R t)) : 2 * prC R f k j ≤ kC f k m := by
  have hl : ∀ i, i ≤ j → ((flP R i).filter (fun x => f x == k)).length = 2 * prC R f k i := by
    intro i
    induction i with
    | zero => intro _; rfl
    | succ i ih =>
      intro hi
      rw [flP, List.filter_append, List.length_append, ih (by omega), prC_succ]
      have e := hk i (by omega)
      by_cases c : f (pr1 R i) = k
      · have c2 : f (pr2 R i) = k := by rw [← e]; exact c
        simp [c, c2]; omega
      · have c2 : ¬ f (pr2 R i) = k := by rw [← e]; exact c
        simp [c, c2]
  rw [← hl j (Nat.le_refl _)]
  refine count_le ((flP_nodup h).sublist List.filter_sublist) fun x hx => ?_
  rw [List.mem_filter] at hx
  refine ⟨?_, hx.2⟩
  obtain ⟨t, ht, h1⟩ := flP_mem.1 hx.1
  rcases h1 with rfl | rfl
  · exact (h t ht).1
  · exact (h t ht).2.1
def chP (R : List (List Int)) (f g : Nat → Int) (k a : Int) : Nat → List Nat
  | 0 => []
  | j + 1 => if (f (pr1 R j) == k) = true then chP R f g k a j ++ [if g (pr1 R j) = a then pr2 R j else pr1 R j] else chP R f g k a j
theorem chP_len (R : List (List Int)) (f g : Nat → Int) (k a : Int) (j : Nat) : (chP R f g k a j).length = prC R f k j := by
  induction j with
  | zero => rfl
  | succ j ih =>
    rw [chP, prC_succ]
    by_cases c : (f (pr1 R j) == k) = true
    · rw [if_pos c, if_pos c, List.length_append, ih]; rfl
    · rw [if_neg c, if_neg c, ih]; omega
theorem chP_mem {R : List (List Int)} {f g : Nat → Int} {k a : Int} {x : Nat} : ∀ {j : Nat}, (∀ t, t < j → f (pr1 R t) = f (pr2 R t) ∧ g (pr1 R t) ≠ g (pr2 R t)) → x ∈ chP R f g k a j → ∃ t, t < j ∧ (x = pr1 R t ∨ x = pr2 R t) ∧ f x = k ∧ g x ≠ a
  | j + 1, hk, hx => by
    rw [chP] at hx
    have old : x ∈ chP R f g k a j → ∃ t, t < j + 1 ∧ (x = pr1 R t ∨ x = pr2 R t) ∧ f x = k ∧ g x ≠ a := fun h => by
      obtain ⟨t, h1, h2⟩ := chP_mem (fun t ht => hk t (by omega)) h
      exact ⟨t, by omega, h2⟩
    by_cases c : (f (pr1 R j) == k) = true
    · rw [if_pos c, List.mem_append, List.mem_singleton] at hx
      rcases hx with hx | hx
      · exact old hx
      · obtain ⟨e1, e2⟩ := hk j (by omega)
        have c' : f (pr1 R j) = k := by simpa using c
        refine ⟨j, by omega, ?_⟩
        by_cases d : g (pr1 R j) = a
        · rw [if_pos d] at hx
          subst hx
          exact ⟨.inr rfl, by rw [← e1]; exact c', fun e => e2 (d.trans e.symm)⟩
        · rw [if_neg d] at hx
          subst hx
          exact ⟨.inl rfl, c', d⟩
    · rw [if_neg c] at hx; exact old hx
theorem chP_nodup {R : List (List Int)} {m : Nat} {f g : Nat → Int} {k a : Int} : ∀ {j : Nat}, Apart R m j → (∀ t, t < j → f (pr1 R t) = f (pr2 R t) ∧ g (pr1 R t) ≠ g (pr2 R t)) → (chP R f g k a j).Nodup
  | 0, _, _ => List.nodup_nil
  | j + 1, h, hk => by
    have ih := chP_nodup (f := f) (g := g) (k := k) (a := a) h.less (fun t ht => hk t (by omega))
    rw [chP]
    split
    · rw [List.nodup_append]
      refine ⟨ih, by simp, fun x hx y hy e => ?_⟩
      subst e
      obtain ⟨t, ht, h1, _⟩ := chP_mem (fun t ht => hk t (by omega)) hx
      have h4 := (h j (by omega)).2.2.2 t ht
      rw [List.mem_singleton] at hy
      split at hy <;> rcases h1 with e1 | e1 <;> omega
    · exact ih
theorem ka_prC {R : List (List Int)} {m : Nat} {f g : Nat → Int} {k a : Int} {j : Nat} (h : Apart R m j) (hk : ∀ t, t < j → f (pr1 R t) = f (pr2 R t) ∧ g (pr1 R t) ≠ g (pr2 R t)) : prC R f k j + kaC f g k a m ≤ kC f k m := by
  have h1 : prC R f k j ≤ (List.range m).countP (fun i => f i == k && !(g i == a)) := by
    rw [← chP_len R f g k a j]
    refine count_le (chP_nodup h hk) fun x hx => ?_
    obtain ⟨t, ht, h2, h3, h4⟩ := chP_mem hk hx
    refine ⟨?_, by simp [h3, h4]⟩
    rcases h2 with rfl | rfl
    · exact (h t ht).1
    · exact (h t ht).2.1
  have h2 : ∀ l : List Nat, l.countP (fun i => f i == k) = l.countP (fun i => f i == k && !(g i == a)) + l.countP (fun i => f i == k && g i == a) := by
    intro l
    induction l with
    | nil => rfl
    | cons x l ih =>
      rw [List.countP_cons, List.countP_cons, List.countP_cons, ih]
      by_cases c : f x = k <;> by_cases d : g x = a <;> simp [c, d] <;> omega
  unfold kC kaC
  rw [h2]; omega
/-- A sum over keys. -/
def sumK (h : Int → Int) : List Int → Int
  | [] => 0
  | k :: ks => h k + sumK h ks
theorem sumK_le {h h2 : Int → Int} : ∀ {ks : List Int}, (∀ k ∈ ks, h k ≤ h2 k) → sumK h ks ≤ sumK h2 ks
  | [], _ => Int.le_refl _
  | k :: ks, hh => by
    have h1 := hh k (List.mem_cons_self)
    have h3 := sumK_le (ks := ks) (fun q hq => hh q (List.mem_cons_of_mem _ hq))
    rw [sumK, sumK]; omega
theorem sumK_add {h h2 : Int → Int} (ks : List Int) : sumK (fun k => h k + h2 k) ks = sumK h ks + sumK h2 ks := by
  induction ks with
  | nil => rfl
  | cons k ks ih => rw [sumK, sumK, sumK, ih]; omega
theorem sumK_one {x : Int} : ∀ {ks : List Int}, ks.Nodup → x ∈ ks → sumK (fun k => if (x == k) = true then 1 else 0) ks = 1
  | k :: ks, hn, hx => by
    have zero : ∀ {qs : List Int}, x ∉ qs → sumK (fun k => if (x == k) = true then 1 else 0) qs = 0 := by
      intro qs
      induction qs with
      | nil => intro _; rfl
      | cons q qs ih =>
        intro h
        rw [sumK, ih (fun e => h (List.mem_cons_of_mem _ e)), if_neg (by simp; intro e; exact h (e ▸ List.mem_cons_self))]; rfl
    rw [sumK]
    obtain ⟨h1, h2⟩ := List.nodup_cons.1 hn
    by_cases c : x = k
    · subst c
      rw [zero h1, if_pos (by simp)]; rfl
    · rw [if_neg (by simpa using c), sumK_one h2 (by
        rcases List.mem_cons.1 hx with e | e
        · exact absurd e c
        · exact e)]; rfl
theorem sumK_prC {R : List (List Int)} {f : Nat → Int} {ks : List Int} (hn : ks.Nodup) : ∀ {j : Nat}, (∀ t, t < j → f (pr1 R t) ∈ ks) → sumK (fun k => (prC R f k j : Int)) ks = j
  | 0, _ => by
    have : ∀ qs : List Int, sumK (fun k => (prC R f k 0 : Int)) qs = 0 := by
      intro qs
      induction qs with
      | nil => rfl
      | cons q qs ih => rw [sumK, ih]; rfl
    exact this ks
  | j + 1, h => by
    have ih := sumK_prC (R := R) (f := f) hn (j := j) (fun t ht => h t (by omega))
    have e : (fun k => ((prC R f k (j + 1) : Nat) : Int)) = fun k => ((prC R f k j : Nat) : Int) + (if (f (pr1 R j) == k) = true then 1 else 0) := by
      funext k
      rw [prC_succ]
      split <;> simp
    rw [e, sumK_add, ih, sumK_one hn (h j (by omega))]
    omega
/-- A plan has no more pairs than the groups allow. -/
theorem plan_le {R : List (List Int)} {m : Nat} {f g : Nat → Int} {j : Nat} {ks : List Int} {h : Int → Int} (hA : Apart R m j) (hk : ∀ t, t < j → f (pr1 R t) = f (pr2 R t) ∧ g (pr1 R t) ≠ g (pr2 R t)) (hn : ks.Nodup) (hin : ∀ t, t < j → f (pr1 R t) ∈ ks) (hh : ∀ k ∈ ks, ∃ a : Int, h k = min (((kC f k m : Nat) : Int) / 2) ((kC f k m : Nat) - (kaC f g k a m : Nat))) : (j : Int) ≤ sumK h ks := by
  rw [← sumK_prC hn hin]
  refine sumK_le fun k hkk => ?_
  obtain ⟨a, e⟩ := hh k hkk
  have h1 := two_prC (k := k) hA (fun t ht => (hk t ht).1)
  have h2 := ka_prC (k := k) (a := a) hA hk
  rw [e]
  omega
end Go.Proofs.YtahbcnclhohnaaaGreat
