/- What a seeded rounding is, in plain words. -/
import Derived.Test.YtcjmapdeopffcaaHg
import Derived.Test.YtcjmapdeopffcaaZn
namespace Go.Proofs.Ytcjmapdeopffcaa
open Go.RowKit Flo
set_option linter.unusedVariables false

open Classical in
/-- The least and the greatest value of an element of a network with flows. -/
noncomputable def mnV (t : Net) (i j : Nat) : Int := if h : ∃ v, t.IsMin i j v then h.choose else 0
open Classical in
noncomputable def mxV (t : Net) (i j : Nat) : Int := if h : ∃ v, t.IsMax i j v then h.choose else 0
theorem mnV_of {t : Net} {i j : Nat} {v : Int} (h : t.IsMin i j v) : mnV t i j = v := by
  have he : ∃ v, t.IsMin i j v := ⟨v, h⟩
  unfold mnV
  rw [dif_pos he]
  exact he.choose_spec.one h
theorem mxV_of {t : Net} {i j : Nat} {v : Int} (h : t.IsMax i j v) : mxV t i j = v := by
  have he : ∃ v, t.IsMax i j v := ⟨v, h⟩
  unfold mxV
  rw [dif_pos he]
  exact he.choose_spec.one h
open Classical in
/-- One element is chosen: the network behind it and the place in the stream. -/
noncomputable def rndStep (b sd : Int) (v : Int) (i j : Nat) (s : Net × Int) : Option (Net × Int) :=
  if s.1.Feas then
    if mnV s.1 i j < mxV s.1 i j then
      match belowM sd b s.2 with
      | none => none
      | some (u, a) => some (s.1.bound i j (if u < v.tmod b then mxV s.1 i j else mnV s.1 i j) (if u < v.tmod b then mxV s.1 i j else mnV s.1 i j), a)
    else some (s.1.bound i j (mnV s.1 i j) (mnV s.1 i j), s.2)
  else none
/-- The first q elements of row i. -/
noncomputable def rndRow (b sd : Int) (x : Nat → Nat → Int) (i : Nat) (s : Option (Net × Int)) : Nat → Option (Net × Int)
  | 0 => s
  | q + 1 => (rndRow b sd x i s q).bind (rndStep b sd (x i q) i q)
/-- The first k rows. -/
noncomputable def rndRows (b sd : Int) (m : Nat) (x : Nat → Nat → Int) (t : Net) : Nat → Option (Net × Int)
  | 0 => some (t, 0)
  | k + 1 => rndRow b sd x k (rndRows b sd m x t k) m
section
variable {b sd v a : Int} {i j k q n m : Nat} {s : Net × Int} {t : Net} {x : Nat → Nat → Int} {o : Option (Net × Int)}
theorem rndRow_none : rndRow b sd x i none q = none := by
  induction q with
  | zero => rfl
  | succ q ih => simp only [rndRow]; rw [ih]; rfl
theorem rndRow_succ : rndRow b sd x i o (q + 1) = (rndRow b sd x i o q).bind (rndStep b sd (x i q) i q) := rfl
/-- What holds of a network that was reached. -/
structure RndI (t : Net) (s : Net × Int) (k q m : Nat) : Prop where
  sub : SubN s.1 t
  feas : 0 < k ∨ 0 < q → s.1.Feas
  fix : ∀ i j, (i < k ∧ j < m) ∨ (i = k ∧ j < q) → s.1.lo i j = s.1.hi i j
  a0 : 0 ≤ s.2
  a1 : s.2 ≤ 1000000
theorem feas_bound (h : t.Feas) {v : Int} (hv : ∃ x, t.Flow x ∧ x i j = v) : (t.bound i j v v).Feas := by
  obtain ⟨x, hx, rfl⟩ := hv
  exact ⟨x, hx.bound (Int.le_refl _) (Int.le_refl _)⟩
theorem SubN.infeas {s s' t : Net} (h : SubN s' s) (hn : ¬ s.Feas) : ¬ s'.Feas := fun ⟨x, hx⟩ => hn ⟨x, h.flow hx⟩
theorem SubN.one {s t : Net} (h : SubN s t) {i j : Nat} {v : Int} (hi : i < t.n) (hj : j < t.m) (h1 : s.lo i j ≤ v) (h2 : v ≤ s.hi i j) : SubN (s.bound i j v v) s := (SubN.refl h.b).set (by rw [h.n]; exact hi) (by rw [h.m]; exact hj) h1 h2
/-- One element more. -/
theorem RndI.step {t : Net} {s : Net × Int} {k q m : Nat} (h : RndI t s k q m) (hk : k < t.n) (hq : q < t.m) (hqm : q < m) {v a : Int} (hF : s.1.Feas) (hv : ∃ x, s.1.Flow x ∧ x k q = v) (h0 : 0 ≤ a) (h1 : a ≤ 1000000) : RndI t (s.1.bound k q v v, a) k (q + 1) m := by
  have hf2 := feas_bound hF hv
  obtain ⟨x, hx, rfl⟩ := hv
  have hlo := hx.ge k q (by rw [h.sub.n]; exact hk) (by rw [h.sub.m]; exact hq)
  have hhi := hx.le k q (by rw [h.sub.n]; exact hk) (by rw [h.sub.m]; exact hq)
  refine ⟨h.sub.set hk hq hlo hhi, fun _ => hf2, fun i j hij => ?_, h0, h1⟩
  show (if i = k ∧ j = q then x k q else s.1.lo i j) = (if i = k ∧ j = q then x k q else s.1.hi i j)
  by_cases e : i = k ∧ j = q
  · rw [if_pos e, if_pos e]
  · rw [if_neg e, if_neg e]
    refine h.fix i j ?_
    rcases hij with h2 | ⟨h2, h3⟩
    · exact .inl h2
    · exact .inr ⟨h2, by
        rcases Nat.lt_or_ge j q with h4 | h4
        · exact h4
        · exact absurd ⟨h2, by omega⟩ e⟩
theorem RndI.row {t : Net} {s : Net × Int} {k m : Nat} (h : RndI t s k m m) (hm : 0 < m) : RndI t s (k + 1) 0 m :=
  ⟨h.sub, fun _ => h.feas (.inr hm), fun i j hij => by
    rcases hij with ⟨h1, h2⟩ | ⟨_, h2⟩
    · by_cases e : i = k
      · exact h.fix i j (.inr ⟨e, h2⟩)
      · exact h.fix i j (.inl ⟨by omega, h2⟩)
    · omega, h.a0, h.a1⟩
/-- The run and what the reference holds. -/
def Inv (t : Net) (o : Option (Net × Int)) (s : Net) (ap : Int) (al : Bool) (k q m : Nat) : Prop := (o = some (s, ap) ∧ al = true ∧ RndI t (s, ap) k q m) ∨ (o = none ∧ (¬ s.Feas ∨ al = false))
section
variable {lo hi ap a u : Int} {al : Bool} {s : Net}
theorem rndStep_no (h : ¬ s.Feas) : rndStep b sd v i j (s, ap) = none := by unfold rndStep; exact if_neg h
theorem rndStep_one (h : s.Feas) (h1 : s.IsMin i j lo) (h2 : s.IsMax i j hi) (hlt : ¬ lo < hi) : rndStep b sd v i j (s, ap) = some (s.bound i j lo lo, ap) := by
  unfold rndStep
  rw [if_pos h, mnV_of h1, mxV_of h2, if_neg hlt]
theorem rndStep_die (h : s.Feas) (h1 : s.IsMin i j lo) (h2 : s.IsMax i j hi) (hlt : lo < hi) (hb : belowM sd b ap = none) : rndStep b sd v i j (s, ap) = none := by
  unfold rndStep
  rw [if_pos h, mnV_of h1, mxV_of h2, if_pos hlt, hb]
theorem rndStep_two (h : s.Feas) (h1 : s.IsMin i j lo) (h2 : s.IsMax i j hi) (hlt : lo < hi) (hb : belowM sd b ap = some (u, a)) : rndStep b sd v i j (s, ap) = some (s.bound i j (if u < v.tmod b then hi else lo) (if u < v.tmod b then hi else lo), a) := by
  unfold rndStep
  rw [if_pos h, mnV_of h1, mxV_of h2, if_pos hlt, hb]
theorem Inv.one (h : Inv t o s ap al k q m) (hs : SubN s t) (hk : k < t.n) (hq : q < t.m) (hqm : q < m) (hlo : s.lo k q ≤ lo) (hlo2 : lo ≤ s.hi k q) (h1 : s.Feas → s.IsMin k q lo) (h2 : s.Feas → s.IsMax k q hi) (hlt : ¬ lo < hi) : Inv t (o.bind (rndStep b sd v k q)) (s.bound k q lo lo) ap al k (q + 1) m := by
  have hsub := hs.one hk hq hlo hlo2
  rcases h with ⟨rfl, rfl, hI⟩ | ⟨rfl, h⟩
  · by_cases hF : s.Feas
    · exact .inl ⟨rndStep_one hF (h1 hF) (h2 hF) hlt, rfl, hI.step hk hq hqm hF (h1 hF).at_ hI.a0 hI.a1⟩
    · exact .inr ⟨rndStep_no hF, .inl (hsub.infeas (t := t) hF)⟩
  · exact .inr ⟨rfl, h.imp (fun h => hsub.infeas (t := t) h) id⟩
theorem Inv.two (h : Inv t o s ap true k q m) (hs : SubN s t) (hk : k < t.n) (hq : q < t.m) (hqm : q < m) (hlo : s.lo k q ≤ lo) (hlo2 : lo ≤ s.hi k q) (hhi : s.lo k q ≤ hi) (hhi2 : hi ≤ s.hi k q) (h1 : s.Feas → s.IsMin k q lo) (h2 : s.Feas → s.IsMax k q hi) (hlt : lo < hi) (hb : belowM sd b ap = some (u, a)) (ha0 : 0 ≤ a) (ha1 : a ≤ 1000000) :
    Inv t (o.bind (rndStep b sd v k q)) (s.bound k q (if u < v.tmod b then hi else lo) (if u < v.tmod b then hi else lo)) a true k (q + 1) m := by
  have hsub := hs.one hk hq (v := if u < v.tmod b then hi else lo) (by split <;> omega) (by split <;> omega)
  rcases h with ⟨rfl, _, hI⟩ | ⟨rfl, h⟩
  · by_cases hF : s.Feas
    · refine .inl ⟨rndStep_two hF (h1 hF) (h2 hF) hlt hb, rfl, hI.step hk hq hqm hF ?_ ha0 ha1⟩
      split
      · exact (h2 hF).at_
      · exact (h1 hF).at_
    · exact .inr ⟨rndStep_no hF, .inl (hsub.infeas (t := t) hF)⟩
  · exact .inr ⟨rfl, h.imp (fun h => hsub.infeas (t := t) h) (fun h => (by cases h))⟩
theorem Inv.die (h : Inv t o s ap al k q m) (hR : (if al = true then belowM sd b ap else none) = none) (h1 : s.Feas → s.IsMin k q lo) (h2 : s.Feas → s.IsMax k q hi) (hlt : lo < hi) {v2 : Int} : Inv t (o.bind (rndStep b sd v k q)) (s.bound k q v2 v2) a false k (q + 1) m := by
  refine .inr ⟨?_, .inr rfl⟩
  rcases h with ⟨rfl, rfl, hI⟩ | ⟨rfl, _⟩
  · rw [if_pos rfl] at hR
    by_cases hF : s.Feas
    · exact rndStep_die hF (h1 hF) (h2 hF) hlt hR
    · exact rndStep_no hF
  · rfl
end
end
/-- The seeded rounding of a matrix: its elements. -/
noncomputable def rndO (n m : Nat) (b sd : Int) (x : Nat → Nat → Int) : Option (Nat → Nat → Int) := (rndRows b sd m x (netOf n m b x) n).map fun s i j => s.1.lo i j * b
/-- .. of whatever lists, by whatever base and seed. -/
noncomputable def rndL (n : Nat) (L : Nat → List Int) (b sd : Int) : Option (Nat → Nat → Int) := if (inR b 2 100 && mxB n L) = true ∧ inR sd 0 4611686016279904236 = true then rndO n (L 0).length b sd (fun i j => (L i)[j]?.getD 0) else none
end Go.Proofs.Ytcjmapdeopffcaa
