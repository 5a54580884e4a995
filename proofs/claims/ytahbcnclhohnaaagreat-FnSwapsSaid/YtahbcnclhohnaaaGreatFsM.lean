/- Groups by a key: a map of rows of indices of the call's own beside other work; slices.Sort at a row of the call's own. -/
import Derived.Test.YtahbcnclhohnaaaGreatFsP
import Derived.Test.YtahbcnclhohnaaaGreatZa
import Derived.Test.YtahbcnclhohnaaaGreatZm
import Derived.Test.YtahbcnclhohnaaaGreatSrtI
import Derived.Maps.GroupsBeside
import Derived.Sort.OwnSortedInts
namespace Go.Proofs.YtahbcnclhohnaaaGreat
open Go.RowKit Go.Maps Go.MapKept Go.ChangeMaps Go.ChangeShapes Go.WideShapes

/-- The indices below j with a key. -/
def grp (f : Nat → Int) (k : Int) (j : Nat) : List Int := ((List.range j).filter (fun i => f i == k)).map Int.ofNat
theorem grp_succ (f : Nat → Int) (k : Int) (j : Nat) : grp f k (j + 1) = if f j = k then grp f k j ++ [(j : Int)] else grp f k j := by
  unfold grp
  rw [List.range_succ, List.filter_append, List.map_append]
  by_cases h : f j = k
  · simp [h]
  · simp [h]
theorem grp_len (f : Nat → Int) (k : Int) (j : Nat) : (grp f k j).length = kC f k j := by
  unfold grp kC
  rw [List.length_map, List.countP_eq_length_filter]
theorem grp_le (f : Nat → Int) (k : Int) (j : Nat) : (grp f k j).length ≤ j := by
  rw [grp_len]
  have h := List.countP_le_length (p := fun i => f i == k) (l := List.range j)
  rw [List.length_range] at h
  exact h
theorem grp_mem {f : Nat → Int} {k : Int} {j : Nat} {x : Int} : x ∈ grp f k j ↔ ∃ i : Nat, i < j ∧ f i = k ∧ x = i := by
  unfold grp
  simp only [List.mem_map, List.mem_filter, List.mem_range, beq_iff_eq]
  constructor
  · rintro ⟨i, ⟨h1, h2⟩, rfl⟩; exact ⟨i, h1, h2, rfl⟩
  · rintro ⟨i, h1, h2, rfl⟩; exact ⟨i, ⟨h1, h2⟩, rfl⟩
theorem grp_some {f : Nat → Int} {k : Int} {j : Nat} : grp f k j ≠ [] ↔ ∃ i, i < j ∧ f i = k := by
  constructor
  · intro h
    obtain ⟨x, hx⟩ := List.exists_mem_of_ne_nil _ h
    obtain ⟨i, h1, h2, _⟩ := grp_mem.1 hx
    exact ⟨i, h1, h2⟩
  · rintro ⟨i, h1, h2⟩ e
    have := grp_mem.2 ⟨i, h1, h2, rfl⟩
    rw [e] at this; cases this
theorem grp_wf {f : Nat → Int} {k : Int} {j : Nat} (hj : j ≤ 1000) : ∀ x ∈ grp f k j, (Lit.int .i64 x).wf = true := fun x hx => by
  obtain ⟨i, h1, _, rfl⟩ := grp_mem.1 hx
  exact WalkArith.wf_i64 (by omega)
/-- What a group reads as. -/
def gD (zs : List Int) : DataW Nat := if zs = [] then .nil else .slice (lits .i64 zs) []
theorem lits_inj {xs ys : List Int} (h : (lits .i64 xs : List (DataW Nat)) = lits .i64 ys) : xs = ys := by
  unfold lits at h
  exact (List.map_inj_right (fun a b hab => by simpa using hab)).1 h
abbrev groupsOf (w : World) (gb j : Nat) (D : DataW Nat) : Prop := w.ownsGroups Tryz.prog 3 (gb + 1) 3 .i64 gb j D
theorem groups_map {w : World} {gb j : Nat} {D : DataW Nat} (h : groupsOf w gb j D) : IsMap D := by
  obtain ⟨es, clock, _, _, _, e, _⟩ := h
  exact ⟨_, e⟩
/-- A map of the call's own that holds the groups of the first j; no group's row is a block of which No holds. -/
structure MG (w : World) (gb : Nat) (f : Nat → Int) (j : Nat) (No : Nat → Prop) : Prop where
  own : ∃ D, groupsOf w gb j D ∧ ∀ k : Int, D.atKey (.int .i64 k) .nil = gD (grp f k j)
  sh : w.Shuns gb No
theorem MG.lt {w : World} {gb : Nat} {f : Nat → Int} {j : Nat} {No : Nat → Prop} (h : MG w gb f j No) : gb < w.heap.size := by
  obtain ⟨D, ⟨es, clock, hb, _⟩, _⟩ := h.own
  exact (Array.getElem?_eq_some_iff.1 hb).1
theorem MG.made (w : World) (f : Nat → Int) (No : Nat → Prop) : MG (w.alloc (.map #[] 0)) w.heap.size f 0 No :=
  ⟨⟨.map [], World.ownsGroups_made _ _ _ _ _, fun _ => rfl⟩, World.Shuns_made _ _⟩
theorem MG.kept {w w' : World} {gb : Nat} {f : Nat → Int} {j : Nat} {No : Nat → Prop} {row : Option Nat} (h : MG w gb f j No) (hg : w.grownBy w' row) (h1 : some gb ≠ row) (h2 : ∀ q, row = some q → No q) : MG w' gb f j No := by
  obtain ⟨D, hD, hr⟩ := h.own
  exact ⟨⟨D, hD.kept hg h1 (h.sh.rowsOff h2), hr⟩, h.sh.kept hg h.lt h1⟩
theorem MG.below {w w' : World} {gb : Nat} {f : Nat → Int} {j : Nat} {No : Nat → Prop} (h : MG w gb f j No) (hb : Below w.heap.size w w') : MG w' gb f j No :=
  h.kept (grown_none hb none) (by simp) (fun q hq => by cases hq)
theorem MG.reno {w : World} {gb : Nat} {f : Nat → Int} {j : Nat} {No No' : Nat → Prop} (h : MG w gb f j No) (hn : ∀ g, No' g → No g ∨ w.heap.size ≤ g) : MG w gb f j No' := by
  obtain ⟨D, hD, hr⟩ := h.own
  exact ⟨⟨D, hD, hr⟩, h.sh.reno hD hn⟩
theorem MG.key {w : World} {gb : Nat} {f : Nat → Int} {j : Nat} {No : Nat → Prop} (_h : MG w gb f j No) : Keyed Tryz.prog 3 := int_keyed Tryz.underlying3
theorem zeroG (w : World) : (zeroValue 26).run Tryz.prog w = .ok (.slice none 0 0) w := by kernel_rfl
theorem datum_row {A : Option Addr} {c : Nat} {zs ys : List Int} {w : World} {B n : Nat} (ho : Own w B A n c zs) (h : rowDatum (H := Nat) .i64 (.slice A n c) zs = gD ys) : zs = ys ∧ (A = none ↔ ys = []) := by
  cases A with
  | none =>
    have h0 : n = 0 := by
      rcases ho.2 with ⟨h1, h2⟩ | ⟨g, cap, cur, h1, _⟩
      · exact h2
      · simp at h1
    have hz : zs = [] := by
      have h1 := ho.1
      rw [h0] at h1
      simpa using h1
    have hy : ys = [] := by
      by_cases hy : ys = []
      · exact hy
      · unfold gD at h
        rw [if_neg hy] at h
        simp [rowDatum] at h
    exact ⟨by rw [hz, hy], by simp [hy]⟩
  | some a =>
    by_cases hy : ys = []
    · unfold gD at h
      rw [if_pos hy] at h
      simp [rowDatum] at h
    · unfold gD at h
      rw [if_neg hy] at h
      refine ⟨lits_inj ?_, by simp [hy]⟩
      simpa [rowDatum] using h
/-- 'm[k]', and the way back of 'm[k] = append(m[k], j)'. -/
theorem MG.look {w : World} {gb : Nat} {f : Nat → Int} {j : Nat} {No : Nat → Prop} (h : MG w gb f j No) (hj : j ≤ 1000) {k : Int} (hk : (Lit.int .i64 k).wf = true) :
    ∃ (A : Option Addr) (c : Nat), (Instr.lookup 109 (.map (some gb)) (.int .i64 k) false).run Tryz.prog w = .ok (.slice A (grp f k j).length c) w ∧ Own w (gb + 1) A (grp f k j).length c (grp f k j) ∧ (A = none ↔ grp f k j = []) ∧ (∀ g, rowOf A = some g → ¬ No g) ∧
      (f j = k → (∀ g, No g → g < w.heap.size) → ∀ (w1 : World) (A' : Option Addr) (c' : Nat), w.grownBy w1 (rowOf A) → Own w1 (gb + 1) A' ((grp f k j).length + 1) c' (grp f k j ++ [(j : Int)]) → (rowOf A' = rowOf A ∨ rowOf A' = some (w.heap.size + 1)) →
        ∃ w2, (Instr.mapUpdate 109 (.map (some gb)) (.int .i64 k) (.slice A' ((grp f k j).length + 1) c')).run Tryz.prog w1 = .ok () w2 ∧ MG w2 gb f (j + 1) No ∧ w1.grownBy w2 (some gb)) := by
  obtain ⟨D, hD, hr⟩ := h.own
  have K := h.key
  have hkey := keyOf_int_mk Tryz.underlying3 hk
  obtain ⟨v, zs, hrun, hat, hoi, hzl, hback⟩ := hD.at K Tryz.underlying109 (zeroG w) (by unfold maxLen; omega) hkey
  rw [hr k] at hat
  have hv : ∃ A c, v = .slice A zs.length c := by
    rcases hoi.1.2 with ⟨rfl, h0⟩ | ⟨g, cap, cur, rfl, _⟩
    · exact ⟨none, 0, by rw [h0]⟩
    · exact ⟨_, cap, rfl⟩
  obtain ⟨A, c, rfl⟩ := hv
  have hown : Own w (gb + 1) A zs.length c zs := hoi.1
  obtain ⟨rfl, hnil⟩ := datum_row hown hat.symm
  have hsh : ∀ g, rowOf A = some g → ¬ No g := by
    have hD2 := hD
    obtain ⟨es, clock, hb, F, _⟩ := hD2
    rcases Maps.fit_look false K Tryz.underlying109 (zeroG w) hb F hkey with ⟨hrun', _, _⟩ | ⟨e0, y, hm0, _, hrun', _, _, _⟩
    · rw [hrun] at hrun'
      have ev : Value.slice A (grp f k j).length c = .slice none 0 0 := by simpa using hrun'
      injection ev with ev
      subst ev
      intro g hg; cases hg
    · rw [hrun] at hrun'
      have ev : Value.slice A (grp f k j).length c = e0.val := by simpa using hrun'
      exact fun g hg => h.sh es clock hb e0 hm0 g (by rw [← ev, ownBlock_row]; exact hg)
  refine ⟨A, c, hrun, hown, hnil, hsh, fun hfk hno w1 A' c' hg ho' hloc => ?_⟩
  have hoi' : w1.ownsInts (gb + 1) 3 .i64 (.slice A' ((grp f k j).length + 1) c') (grp f k j ++ [(j : Int)]) := hoi.appended (x := (j : Int)) (by simpa [Own] using ho') (WalkArith.wf_i64 (by omega))
  have hloc' : (Value.slice A' ((grp f k j).length + 1) c').ownBlock = (Value.slice A (grp f k j).length c).ownBlock ∨ ∃ g, (Value.slice A' ((grp f k j).length + 1) c').ownBlock = some g ∧ w.heap.size ≤ g := by
    rw [ownBlock_row, ownBlock_row]
    exact hloc.imp id (fun e => ⟨_, e, by omega⟩)
  have hg' : w.grownBy w1 (Value.slice A (grp f k j).length c).ownBlock := by rw [ownBlock_row]; exact hg
  obtain ⟨w2, hrun2, hown2, hg2⟩ := hback w1 _ _ hg' hoi' (by simp; exact hzl) hloc'
  refine ⟨w2, hrun2, ⟨⟨_, hown2, fun k' => ?_⟩, ?_⟩, hg2⟩
  · by_cases ck : k' = k
    · subst ck
      rw [atKey_put_same (groups_map hD) (K.key hkey), hoi'.datum_pos (by simp), grp_succ, if_pos hfk]
      unfold gD
      rw [if_neg (by simp)]
    · rw [atKey_put_other (by simpa using ck), hr k', grp_succ, if_neg (by rw [hfk]; exact fun e => ck e.symm)]
  · have hD0 := hD
    obtain ⟨es, clock, hb, F, hs, _, hbb, _⟩ := hD0
    have hblt : gb < w.heap.size := (Array.getElem?_eq_some_iff.1 hb).1
    have hb1 : w1.heap[gb]? = some (.map es clock) := (hg'.block gb hblt (fun e1 => by have := (hoi.1.lt gb e1.symm).1; omega)).trans hb
    obtain ⟨es', clock', hb2, hwho⟩ := stored_who K Tryz.underlying109 hb1 F (Nat.lt_of_le_of_lt hs (by unfold maxLen; omega)) hkey hrun2
    intro es2 clock2 hb2' y hy g hyg
    obtain ⟨rfl, rfl⟩ : es' = es2 ∧ clock' = clock2 := by rw [hb2] at hb2'; simpa using hb2'
    rcases hwho y hy with ⟨hy0, _⟩ | ⟨_, hval⟩
    · exact h.sh es clock hb y hy0 g hyg
    · rw [hval, ownBlock_row] at hyg
      rcases hloc with e | e
      · exact hsh g (e ▸ hyg)
      · rw [e] at hyg
        intro hN
        have := hno g hN
        injection hyg with hyg
        omega
set_option maxRecDepth 100000 in
theorem insInts_none (p : Option Addr) (cap : Nat) (w : World) : Calls Tryz.prog 117 #[.slice p 0 cap, .int .i64 0, .int .i64 0] w fun e w' => e = .returned (.tuple #[]) ∧ w' = w := by
  go_enter Tryz.func117, Tryz.ntmps117
  go_wp2
  refine wp_loop_rounds 1 ?_
  rw [rounds_succ]
  go_wp2
  go_end0
  exact ⟨rfl, rfl⟩
set_option maxRecDepth 100000 in
theorem pdqInts_none (p : Option Addr) (cap : Nat) (lim : Int) (w : World) : Calls Tryz.prog 100 #[.slice p 0 cap, .int .i64 0, .int .i64 0, .int .i64 lim] w fun e w' => e = .returned (.tuple #[]) ∧ w' = w := by
  go_enter Tryz.func100, Tryz.ntmps100
  go_wp2
  refine wp_loop_rounds 1 ?_
  rw [rounds_succ]
  go_wp2_with fail
  refine (insInts_none p cap _).mono ?_
  rintro e w' ⟨rfl, rfl⟩
  go_wp2
  (try simp only [Exit.inBlock, Exit.then])
  refine bodyPost_ret (results_none rfl _ _ _) rfl ?_
  exact ⟨rfl, rfl⟩
set_option maxRecDepth 100000 in
theorem sortInts_none (p : Option Addr) (cap : Nat) (w : World) : Calls Tryz.prog 71 #[.slice p 0 cap] w fun e w' => e = .returned (.tuple #[]) ∧ w' = w := by
  go_enter Tryz.func71, Tryz.ntmps71
  go_wp2_with fail
  refine (bitsLen_any 0 _ (by omega) (by omega)).mono ?_
  rintro e w' ⟨rfl, rfl⟩
  go_wp2_with fail
  refine (pdqInts_none p cap _ _).mono ?_
  rintro e w' ⟨rfl, rfl⟩
  go_wp2
  first | (exact ⟨rfl, rfl⟩) | (go_end0; exact ⟨rfl, rfl⟩)
/-- slices.Sort at a row of the call's own: the same numbers in another order. -/
theorem sortInts_any (B : Nat) (A : Option Addr) (n c : Nat) (xs : List Int) (w : World) (h : Own w B A n c xs) (hn : n ≤ 1000) :
    Calls Tryz.prog 71 #[.slice A n c] w fun e w' => e = .returned (.tuple #[]) ∧ ∃ ys, ys.Perm xs ∧ Own w' B A n c ys ∧ w.grownBy w' (rowOf A) := by
  have hl := h.1
  rcases h.2 with ⟨h1, h2⟩ | ⟨g, cap, cur, h1, hB, hb, hnc, hcm, hcs, ht⟩
  · injection h1 with e1 e2 e3
    subst e1; subst h2
    refine (sortInts_none none c w).mono ?_
    rintro e w' ⟨rfl, rfl⟩
    exact ⟨rfl, xs, List.Perm.refl _, h, World.grownBy.refl _ _⟩
  · injection h1 with e1 _ e3
    subst e1; subst e3
    obtain rfl : xs.length = n := by simpa using hl
    have hH := holds_of_blockI (ss := xs) hb (by rw [Nat.mul_one] at ht; exact ht)
    refine (Any.slices_Sort_int sortI g 0 c xs w hH (Array.getElem?_eq_some_iff.1 hb).1 (by omega)).mono ?_
    rintro e w' ⟨rfl, q, os, rfl⟩
    refine ⟨rfl, _, List.mergeSort_perm xs (fun x y => decide (x ≤ y)), ?_, grownBy_sortedI _⟩
    exact ownsRow_sortedI (by simp) hB hb hnc hcm hcs
end Go.Proofs.YtahbcnclhohnaaaGreat
