/- Certain links: plain law, and appending a row onto a row of rows. -/
import Derived.Test.YthphjfelpbfdmaaPut
namespace Go.Proofs.Ythphjfelpbfdmaa
open Go.RowKit

def aloneK (S : Nat → List Int) (i : Nat) (e : Int) (k : Nat) : Bool := allTo (fun t => decide (t = i) || !hasB (S t) e) k
def certB (S : Nat → List Int) (m i : Nat) : Bool := decide ((S i).length = 1) && aloneK S i ((S i)[0]?.getD 0) m
/-- The pairs of the first i sets. -/
def pairsL (S : Nat → List Int) (m i : Nat) : List (List Int) := (linkK (certB S m) i).map fun k => [k, (S k.toNat)[0]?.getD 0]
theorem pairsL_yes {S : Nat → List Int} {m i : Nat} (h : certB S m i = true) : pairsL S m (i + 1) = pairsL S m i ++ [[(i : Int), (S i)[0]?.getD 0]] := by unfold pairsL; rw [linkK_yes h]; simp
theorem pairsL_no {S : Nat → List Int} {m i : Nat} (h : certB S m i = false) : pairsL S m (i + 1) = pairsL S m i := by unfold pairsL; rw [linkK_no h]
theorem pairsL_len (S : Nat → List Int) (m i : Nat) : (pairsL S m i).length ≤ i := by unfold pairsL; rw [List.length_map]; exact linkK_len _ _
/-- All elements of the first i sets. -/
def flatS (S : Nat → List Int) (i : Nat) : List Int := (List.range i).flatMap S
theorem flatS_succ (S : Nat → List Int) (i : Nat) : flatS S (i + 1) = flatS S i ++ S i := by simp [flatS, List.range_succ]
theorem hasB_mem {xs : List Int} {v : Int} : hasB xs v = true ↔ v ∈ xs := by
  constructor
  · intro h
    by_cases hm : v ∈ xs
    · exact hm
    · have := hasB_no (v := v) (xs := xs) rfl (fun k hk e => hm (by rw [← e]; exact getD_mem hk))
      rw [h] at this; cases this
  · intro h
    obtain ⟨k, hk, e⟩ := List.mem_iff_getElem.1 h
    exact hasB_yes rfl hk (by rw [List.getElem?_eq_getElem hk]; exact e)
theorem flat_one {S : Nat → List Int} {i : Nat} {e : Int} (hS : S i = [e]) : ∀ m, aloneK S i e m = true → (flatS S m).count e = if i < m then 1 else 0 := by
  intro m
  induction m with
  | zero => intro _; simp [flatS]
  | succ m ih =>
    intro h
    have h1 : aloneK S i e m = true := allTo_yes fun t ht => allTo_of h t (by omega)
    have h2 := allTo_of h m (by omega)
    rw [flatS_succ, List.count_append, ih h1]
    by_cases hm : m = i
    · subst hm
      rw [hS, if_neg (by omega), if_pos (by omega)]; simp
    · have h3 : hasB (S m) e = false := by simpa [hm] using h2
      have h4 : e ∉ S m := fun hm' => by rw [hasB_mem.2 hm'] at h3; cases h3
      rw [List.count_eq_zero.2 h4]
      by_cases hlt : i < m
      · rw [if_pos hlt, if_pos (by omega)]
      · rw [if_neg hlt, if_neg (by omega)]
theorem flat_mono {S : Nat → List Int} {e : Int} {k m : Nat} (hk : k ≤ m) : (flatS S k).count e ≤ (flatS S m).count e := by
  induction m with
  | zero => obtain rfl : k = 0 := by omega
            exact Nat.le_refl _
  | succ m ih =>
    rcases Nat.lt_or_ge m k with h | h
    · obtain rfl : k = m + 1 := by omega
      exact Nat.le_refl _
    · rw [flatS_succ, List.count_append]; have := ih h; omega
theorem flat_more {S : Nat → List Int} {i m : Nat} {e : Int} (hi : i < m) (hS : S i = [e]) (h : aloneK S i e m = false) : (flatS S m).count e ≠ 1 := by
  have hex : ∃ t, t < m ∧ t ≠ i ∧ e ∈ S t := by
    refine Classical.byContradiction fun hn => ?_
    have : aloneK S i e m = true := allTo_yes fun t ht => by
      by_cases hti : t = i
      · simp [hti]
      · have : e ∉ S t := fun hm => hn ⟨t, ht, hti, hm⟩
        have h3 : hasB (S t) e = false := by
          cases hb : hasB (S t) e
          · rfl
          · exact absurd (hasB_mem.1 hb) this
        simp [h3]
    rw [h] at this; cases this
  obtain ⟨t, ht, hti, hm⟩ := hex
  have hc : 1 ≤ (S t).count e := List.count_pos_iff.2 hm
  have hci : (S i).count e = 1 := by rw [hS]; simp
  rcases Nat.lt_or_ge t i with h1 | h1
  · have a1 := flat_mono (S := S) (e := e) (k := t + 1) (m := i) (by omega)
    have a2 := flat_mono (S := S) (e := e) (k := i + 1) (m := m) (by omega)
    rw [flatS_succ, List.count_append] at a1 a2
    omega
  · have a1 := flat_mono (S := S) (e := e) (k := i + 1) (m := t) (by omega)
    have a2 := flat_mono (S := S) (e := e) (k := t + 1) (m := m) (by omega)
    rw [flatS_succ, List.count_append] at a1 a2
    omega
theorem cert_iff {S : Nat → List Int} {i m : Nat} (hi : i < m) (h1 : (S i).length = 1) : ((flatS S m).count ((S i)[0]?.getD 0) = 1) ↔ certB S m i = true := by
  have hS : S i = [(S i)[0]?.getD 0] := by
    match h : S i, h1 with
    | [a], _ => rfl
  generalize he : (S i)[0]?.getD 0 = e at *
  have hc : certB S m i = aloneK S i e m := by unfold certB; rw [h1, he]; rfl
  rw [hc]
  cases ha : aloneK S i e m
  · exact ⟨fun h => absurd h (flat_more hi hS ha), fun h => by cases h⟩
  · rw [flat_one hS m ha, if_pos hi]; simp
theorem certB_no {S : Nat → List Int} {i m : Nat} (h1 : (S i).length ≠ 1) : certB S m i = false := by unfold certB; rw [decide_eq_false h1]; rfl
theorem certB_eq {S : Nat → List Int} {i m : Nat} (h1 : (S i).length = 1) : certB S m i = aloneK S i ((S i)[0]?.getD 0) m := by unfold certB; rw [decide_eq_true h1]; rfl
/-- The counts' cells. -/
def cntA (F : List Int) : Array Value := ((List.range 40).map fun (v : Nat) => Value.int .i64 ((F.count (v : Int) : Nat) : Int)).toArray
theorem cntA_nil : cntA [] = ((List.range 40).map fun (_ : Nat) => Value.int .i64 0).toArray := rfl
theorem cntA_at {F : List Int} {v : Nat} (h : v < 40) : (cntA F)[v]? = some (.int .i64 ((F.count (v : Int) : Nat) : Int)) := by simp [cntA, h]
theorem cntA_set {F : List Int} {v : Nat} : (cntA F).setIfInBounds v (.int .i64 (((F.count (v : Int) : Nat) : Int) + 1)) = cntA (F ++ [(v : Int)]) := by
  apply Array.ext_getElem?
  intro t
  rw [Array.getElem?_setIfInBounds]
  have hs : (cntA F).size = 40 := by simp [cntA]
  have hs2 : (cntA (F ++ [(v : Int)])).size = 40 := by simp [cntA]
  by_cases e : v = t
  · subst e
    by_cases h : v < 40
    · rw [if_pos rfl, if_pos (by omega), cntA_at h, List.count_append]; simp
    · rw [if_pos rfl, if_neg (by omega), Array.getElem?_eq_none (by omega)]
  · rw [if_neg e]
    by_cases h : t < 40
    · rw [cntA_at h, cntA_at h, List.count_append]
      have : (v : Int) ≠ (t : Int) := by omega
      simp [this]
    · rw [Array.getElem?_eq_none (by omega), Array.getElem?_eq_none (by omega)]

/-- Rows of rows as a list of lists. -/
def OwnLL (w : World) (lo hi : Nat) (A : Option Addr) (c : Nat) (R : List (List Int)) : Prop := OwnII w lo hi A R.length c (fun t => R[t]?.getD [])
theorem Sub.snoc {w wa w' : World} {lo n c : Nat} {A : Option Addr} {ys : List Value} {R : List (List Int)} {r : List Int} {g rn rc : Nat} (h : Sub w lo w.heap.size ys 1 0 (fun t => R[t]?.getD []) 0 n) (hl : ys.length = n) (hR : R.length = n) (hb : Below w.heap.size w wa) (ho : Own wa lo (some ⟨g, 0, none⟩) rn rc r) (hrn : r.length = rn) (hrs : rn ≤ 1099511627776) (hgn : w.heap.size ≤ g)
    (hrow : wa.ownsRow lo 23 1 (.slice A n c) n ys) (hg : wa.grownBy w' (rowOf A)) : Sub w' lo w'.heap.size (ys ++ [.slice (some ⟨g, 0, none⟩) rn rc]) 1 0 (fun t => (R ++ [r])[t]?.getD []) 0 (n + 1) := by
  subst hrn
  have e1 : ∀ t : Nat, t * 1 + 0 = t := fun t => by omega
  have hne : ∀ {V : Option Addr} {m d : Nat} {xs : List Int}, Own wa lo V m d xs → ∀ b, V = some ⟨b, 0, none⟩ → rowOf A ≠ some b := fun {V m d xs} hV b hVb hAb => by
    rcases A with _ | a
    · cases hAb
    · simp only [rowOf, Option.some.injEq] at hAb
      rcases hrow.2 with ⟨h0, _⟩ | ⟨g', cap, cur, hv, _, hgh, _⟩
      · cases h0
      · injection hv with hv
        injection hv with hv
        subst hv
        subst hAb
        exact own_box_ne hV hgh (by decide) (by rw [hVb]; rfl)
  have hold : ∀ j, j < n → ∀ b, (ys[j]?).bind Value.ownBlock = some b → b < w.heap.size := fun j hj b hbj => by
    obtain ⟨V3, c3, e3, ho3⟩ := h.row j (by omega) hj
    rw [e1] at e3
    rw [e3] at hbj
    exact (ho3.own.row_ge b (by simpa [ownBlock_rowOf] using hbj)).2
  have hy : ∀ j, j < n → (ys ++ [.slice (some ⟨g, 0, none⟩) r.length rc])[j]? = ys[j]? := fun j hj => List.getElem?_append_left (by omega)
  have hyn : (ys ++ [.slice (some ⟨g, 0, none⟩) r.length rc])[n]? = some (.slice (some ⟨g, 0, none⟩) r.length rc) := by
    rw [List.getElem?_append_right (by omega), hl, Nat.sub_self]; rfl
  refine ⟨fun j h1 h2 => ?_, fun i j b h1 h2 h3 hi hj => ?_⟩
  · rw [e1]
    rcases Nat.lt_or_ge j n with hj | hj
    · obtain ⟨V3, c3, e3, ho3⟩ := h.row j h1 hj
      rw [e1] at e3
      have eL : (R ++ [r])[j]?.getD [] = R[j]?.getD [] := by rw [List.getElem?_append_left (by omega)]
      rw [hy j hj]
      rw [eL]
      exact ⟨V3, c3, e3, OwnI.of_own ((ho3.own.below hb).far hg (fun b hA e => hne (ho3.own.below hb) b hA e)) ho3.small⟩
    · obtain rfl : j = n := by omega
      have eL : (R ++ [r])[j]?.getD [] = r := by rw [List.getElem?_append_right (by omega), hR, Nat.sub_self]; rfl
      rw [hyn]
      rw [eL]
      exact ⟨_, rc, rfl, OwnI.of_own (ho.far hg (fun b hA e => hne ho b hA e)) hrs⟩
  · rw [e1] at hi hj
    rcases Nat.lt_or_ge j n with hjn | hjn
    · rw [hy i (by omega)] at hi
      rw [hy j hjn] at hj
      exact h.apart i j b h1 h2 hjn (by rw [e1]; exact hi) (by rw [e1]; exact hj)
    · obtain rfl : j = n := by omega
      rw [hy i (by omega)] at hi
      rw [hyn] at hj
      have hb1 := hold i (by omega) b hi
      simp only [Option.bind_some, Value.ownBlock, Option.some.injEq] at hj
      omega

/-- 'append(s, r)' of one row: r's slice lies in a new block of its own. -/
theorem wp_appII1 {wr : World} {v : Value} {ops : Array Oper} {rest : List Oper} {o : Oper} {a : Act} {Q : Exit → Act → World → Prop} (hgd : o.guard = none) (s x : Operand)
    (ho : o.op = .call { callee := .builtin .append, args := #[s, x], argTypes := #[50, 50] })
    (B : Nat) (A : Option Addr) (n c : Nat) (ys : List Value) (hs : a.eval s = .slice A n c) (hown : wr.ownsRow B 23 1 (.slice A n c) n ys)
    (g : Nat) (hx : a.eval x = .slice (some ⟨g, 0, none⟩) 1 1) (hg : g = wr.heap.size) (hv : v.oneCell' = true) (hsz : n + 1 ≤ 1099511627776) (hB : B ≤ wr.heap.size)
    (h : ∀ A2 c2 w', w'.ownsRow B 23 1 (.slice A2 (n + 1) c2) (n + 1) (ys ++ [v]) → (wr.alloc (.cells #[v] 23)).grownBy w' (rowOf A) → wpList Try.prog ops Q rest (a.put o.dst (.slice A2 (n + 1) c2)) w') :
    wpList Try.prog ops Q (o :: rest) a (wr.alloc (.cells #[v] 23)) := by
  obtain ⟨i0, hi, hz0, hz1, hz2⟩ := info_parts Try.infoIntS
  subst hg
  refine wpList_append_own_at _ hgd s x 50 ho B 23 i0 _ 1 24 Try.underlying50 hi hz0 hz1 hz2 rfl (by omega) (.slice A n c) n ys hs (hown.alloc _) ⟨wr.heap.size, 0, none⟩ 1 1 [v] hx rfl ?_ ?_
      (by unfold maxLen; omega) (by omega) (by simp; omega) ?_
  · intro j u hu
    have hb := box_new wr #[v] 23
    rw [addr_add0]
    match j with
    | 0 => simp at hu; subst hu; exact box_cell hb 0 _ rfl
    | j + 1 => simp at hu
  · intro u hu
    simp at hu
    subst hu
    exact hv
  · intro v' w' h1 h2 h3 h4
    rw [ownBlock_row] at h2
    have hv : ∃ A2 c2, v' = .slice A2 (n + 1) c2 := by
      rcases h1.2 with ⟨hv, h0⟩ | ⟨g, cap, cur, hv, _⟩
      · rw [h0]; exact ⟨none, 0, hv⟩
      · exact ⟨_, cap, hv⟩
    obtain ⟨A2, c2, rfl⟩ := hv
    exact h A2 c2 w' h1 h2
end Go.Proofs.Ythphjfelpbfdmaa
