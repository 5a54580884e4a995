/- Rows of pairs sorted by the library: the contract at rows of the call's own. -/
import Derived.Test.YtahbcnclhohnaaaGreatIwP
import Derived.Test.YtahbcnclhohnaaaGreatSrtL
namespace Go.Proofs.YtahbcnclhohnaaaGreat
open Go.RowKit
open Go.Sort (putRow putCells mapBlock onCells grow PermIn SortedIn SWO heap_grow_old)

section
variable {α : Type} [Inhabited α] {enc : α → Value} {w : World} {B g n cap m : Nat} {T : TypeId} {os : Array Obj}
theorem holds_own {d : List α} (h : w.ownsRow B T 1 (.slice (some ⟨g, 0, none⟩) n cap) n (d.map enc)) : Go.Sort.Holds enc w g 0 d.toArray := by
  intro j hj
  have hl := h.1
  have hj' : j < d.length := by simpa using hj
  rw [Nat.zero_add]
  refine ⟨?_, World.ownsRow.frozenAt h j⟩
  rw [World.ownsRow.cellAt h j (by simp at hl; omega)]
  simp [hj']
theorem sorted_heap {cur : Array Value} {fr : Nat × Nat} (d : Array α) (hb : w.heap[g]? = some (.cells cur T fr)) : (sortWorld enc w g 0 m d os).heap[g]? = some (.cells (putCells enc 0 d cur) T fr) := by
  have hg : g < w.heap.size := lt_of_block hb
  unfold sortWorld
  rw [heap_grow_old _ _ (by simpa [putRow, mapBlock, Go.Sort.ahead] using hg)]
  simp [putRow, mapBlock, Go.Sort.ahead, Array.getElem?_modify, hb, onCells]
theorem sorted_far (d : Array α) : w.grownBy (sortWorld enc w g 0 m d os) (some g) := by
  refine ⟨rfl, rfl, rfl, by simp [sortWorld, putRow, mapBlock, Go.Sort.ahead, grow], fun k hk hne => ?_⟩
  unfold sortWorld
  rw [heap_grow_old _ _ (by simpa [putRow, mapBlock, Go.Sort.ahead] using hk)]
  have : g ≠ k := fun e => hne (by rw [e])
  simp [putRow, mapBlock, Go.Sort.ahead, Array.getElem?_modify, this]
theorem take_put (cur : Array Value) (d : List α) (h : d.length ≤ cur.size) : (putCells enc 0 d.toArray cur).toList.take d.length = d.map enc := by
  apply List.ext_getElem?
  intro j
  by_cases hj : j < d.length
  · rw [List.getElem?_take_of_lt hj, Array.getElem?_toList]
    simp [putCells, hj, show j < cur.size by omega]
  · rw [List.getElem?_take_eq_none (by omega), List.getElem?_eq_none (by simp; omega)]
theorem sorted_own {ys : List Value} (h : w.ownsRow B T 1 (.slice (some ⟨g, 0, none⟩) n cap) n ys) (d : List α) (hd : d.length = n) : (sortWorld enc w g 0 m d.toArray os).ownsRow B T 1 (.slice (some ⟨g, 0, none⟩) n cap) n (d.map enc) := by
  rcases h.2 with ⟨h0, _⟩ | ⟨g', cap', cur, hv, hb, hh, h1, h2, h3, h4⟩
  · cases h0
  · simp only [Value.slice.injEq, Option.some.injEq, Addr.mk.injEq, and_true, true_and] at hv
    obtain ⟨rfl, rfl⟩ := hv
    refine ⟨by simp [hd], .inr ⟨g, cap, _, rfl, hb, sorted_heap _ hh, h1, h2, by simp [putCells, h3], ?_⟩⟩
    rw [Nat.mul_one, ← hd]
    exact take_put cur d (by omega)
end

set_option maxRecDepth 100000 in
set_option maxHeartbeats 1000000 in
theorem cmpPair_any (p q : Addr) (c c' : Nat) (a b x y : Int) (w : World) (p0 : w.cell? p = some (.int .i64 a)) (p1 : w.cell? ⟨p.block, p.off + 1, none⟩ = some (.int .i64 b)) (q0 : w.cell? q = some (.int .i64 x)) (q1 : w.cell? ⟨q.block, q.off + 1, none⟩ = some (.int .i64 y)) :
    Calls Tryz.prog 27 #[.slice (some p) 2 c, .slice (some q) 2 c'] w fun e w' => e = .returned (.int .i64 (pcV [a, b] [x, y])) ∧ w = w' := by
  have HV := Lib.hid (show pcV [a, b] [x, y] = if cmpV a x = 0 then cmpV b y else cmpV a x by unfold pcV; rfl)
  obtain ⟨V, hV⟩ : ∃ V, pcV [a, b] [x, y] = V := ⟨_, rfl⟩
  rw [hV] at HV ⊢
  clear hV
  go_enter Tryz.func27, Tryz.ntmps27
  go_wp2
  go_loopw [11] (fun i wr => ∃ k : Int, (k = 0 ∨ (k = 1 ∧ Hid (a = x)) ∨ (k = 2 ∧ Hid (a = x) ∧ Hid (b = y))) ∧ i = .int .i64 k ∧ w = wr) (fun i _ => (2 - intOf i).toNat)
  case atStart => exact ⟨0, .inl rfl, rfl, rfl⟩
  case round =>
    obtain ⟨k, hk, rfl, rfl⟩ := hrel
    rcases hk with rfl | ⟨rfl, h1⟩ | ⟨rfl, h1, h2⟩
    · rcases (show a < x ∨ x < a ∨ a = x by omega) with h | h | h
      · have HR := Lib.hid (show V = -1 by rw [HV.out, cmpV_lt h]; rfl)
        have HC := Lib.hid (cmpV_lt h)
        clear h
        go_wp2_with fail
        refine (cmpCompare_any _ _ _).mono ?_
        rintro e w2 ⟨rfl, rfl⟩
        rw [HC.out]
        go_wp2
        go_ret
        exact ⟨ret_int HR.out.symm, rfl⟩
      · have HR := Lib.hid (show V = 1 by rw [HV.out, cmpV_gt h]; rfl)
        have HC := Lib.hid (cmpV_gt h)
        clear h
        go_wp2_with fail
        refine (cmpCompare_any _ _ _).mono ?_
        rintro e w2 ⟨rfl, rfl⟩
        rw [HC.out]
        go_wp2
        go_ret
        exact ⟨ret_int HR.out.symm, rfl⟩
      · have HC := Lib.hid (show cmpV a x = 0 by rw [h]; exact cmpV_eq _)
        have HA := Lib.hid h
        clear h
        go_wp2_with fail
        refine (cmpCompare_any _ _ _).mono ?_
        rintro e w2 ⟨rfl, rfl⟩
        rw [HC.out]
        go_wp2
        go_roundw
        case rel => exact ⟨1, .inr (.inl ⟨rfl, HA⟩), rfl, trivial⟩
        case measure => simp [intOf]
    · rcases (show b < y ∨ y < b ∨ b = y by omega) with h | h | h
      · have HR := Lib.hid (show V = -1 by rw [HV.out, h1.out, cmpV_eq, if_pos rfl, cmpV_lt h])
        have HC := Lib.hid (cmpV_lt h)
        clear h
        go_wp2_with fail
        refine (cmpCompare_any _ _ _).mono ?_
        rintro e w2 ⟨rfl, rfl⟩
        rw [HC.out]
        go_wp2
        go_ret
        exact ⟨ret_int HR.out.symm, rfl⟩
      · have HR := Lib.hid (show V = 1 by rw [HV.out, h1.out, cmpV_eq, if_pos rfl, cmpV_gt h])
        have HC := Lib.hid (cmpV_gt h)
        clear h
        go_wp2_with fail
        refine (cmpCompare_any _ _ _).mono ?_
        rintro e w2 ⟨rfl, rfl⟩
        rw [HC.out]
        go_wp2
        go_ret
        exact ⟨ret_int HR.out.symm, rfl⟩
      · have HC := Lib.hid (show cmpV b y = 0 by rw [h]; exact cmpV_eq _)
        have HA := Lib.hid h
        clear h
        go_wp2_with fail
        refine (cmpCompare_any _ _ _).mono ?_
        rintro e w2 ⟨rfl, rfl⟩
        rw [HC.out]
        go_wp2
        go_roundw
        case rel => exact ⟨2, .inr (.inr ⟨rfl, h1, HA⟩), rfl, trivial⟩
        case measure => simp [intOf]
    · have HR := Lib.hid (show V = 0 by rw [HV.out, h1.out, cmpV_eq, if_pos rfl, h2.out, cmpV_eq])
      clear h1 h2
      go_wp2
      go_ret
      exact ⟨ret_int HR.out.symm, rfl⟩

theorem lt_cfN (N x y : Nat) : ltOf (cfN N) x y = decide (clN N x < clN N y) := by
  unfold ltOf cfN
  by_cases h1 : clN N x < clN N y
  · simp [h1]
  · by_cases h2 : clN N y < clN N x <;> simp [h1, h2]
theorem swo_cfN (N : Nat) : SWO (ltOf (cfN N)) where
  irrefl x := by rw [lt_cfN]; simp
  trans x y z h1 h2 := by rw [lt_cfN] at *; simp at *; omega
  ntrans x y z h1 h2 := by rw [lt_cfN] at *; simp at *; omega

theorem sortRows_any (D : Option Addr) (n cu lo N : Nat) (C : List (List Int)) (zs : Nat → Value) (l : List Nat) (w : World) (hN : C.length = N) (hC : C.Pairwise LexP) (hl : ∀ k, k ∈ l → k < N) (hnd : l.Nodup) (hn : n ≤ 1000) (hown : w.ownsRow lo 26 1 (.slice D n cu) n (l.map fun k => zs (clN N k)))
    (hrow : ∀ k, k < N → ∃ (ad : Addr) (c : Nat) (a b : Int), zs k = .slice (some ad) 2 c ∧ C[k]?.getD [] = [a, b] ∧ w.cell? ad = some (.int .i64 a) ∧ w.cell? ⟨ad.block, ad.off + 1, none⟩ = some (.int .i64 b) ∧ rowOf D ≠ some ad.block) :
    Calls Tryz.prog 26 #[.slice D n cu, .func (.func 27) #[] #[]] w fun e w' => e = .returned (.tuple #[]) ∧ ∃ l' : List Nat, l'.Pairwise (· < ·) ∧ (∀ k, k ∈ l' ↔ k ∈ l) ∧ l'.length = n ∧ w'.ownsRow lo 26 1 (.slice D n cu) n (l'.map fun k => zs (clN N k)) ∧ w.grownBy w' (rowOf D) := by
  have hlen : l.length = n := by have := hown.1; simpa using this
  rcases Nat.eq_zero_or_pos n with h0 | h0
  · subst h0
    have e0 : l = [] := List.length_eq_zero_iff.1 hlen
    have h := AnyF.slices_SortFunc_none (P := Tryz.prog) (ρ := sortL_ren) { sortL with } D cu (.func (.func 27) #[] #[]) w
    refine Calls.mono h fun e w' ⟨h1, h2⟩ => ?_
    subst h2
    subst e0
    exact ⟨h1, [], List.Pairwise.nil, fun k => Iff.rfl, rfl, hown, ⟨rfl, rfl, rfl, Nat.le_refl _, fun _ _ _ => rfl⟩⟩
  · obtain ⟨g, rfl, hg0, hg1⟩ := row_head hown h0
    obtain ⟨k0, hk0⟩ : ∃ k, k ∈ l := List.exists_mem_of_length_pos (by omega)
    have hN0 : 0 < N := by have := hl k0 hk0; omega
    have hgl : g < w.heap.size := (row_ge hown g rfl).2
    have hcmp : CmpLays1 Tryz.prog 27 #[] (fun k => zs (clN N k)) (cfN N) g 0 l.toArray.size w := fun m os dk _ x y => by
      obtain ⟨p, c, a, b, e1, e2, p0, p1, pn⟩ := hrow _ (clN_lt (k := x) hN0)
      obtain ⟨q, c', x', y', f1, f2, q0, q1, qn⟩ := hrow _ (clN_lt (k := y) hN0)
      have hf := sorted_far (enc := fun k => zs (clN N k)) (w := w) (g := g) (m := m) (os := os) dk
      have cellOf : ∀ (ad : Addr) (v : Value), w.cell? ad = some v → rowOf (some (⟨g, 0, none⟩ : Addr)) ≠ some ad.block → (sortWorld (fun k => zs (clN N k)) w g 0 m dk os).cell? ad = some v := fun ad v hv hne => by
        rw [World.cell?_of_block (w := w) (a := ad) (hf.block ad.block (block_lt_of_cell hv) (fun e => hne e.symm))]
        exact hv
      have hc := cmpPair_any p q c c' a b x' y' (sortWorld (fun k => zs (clN N k)) w g 0 m dk os) (cellOf _ _ p0 pn) (cellOf _ _ p1 pn) (cellOf _ _ q0 qn) (cellOf _ _ q1 qn)
      have hv : pcV [a, b] [x', y'] = cfN N x y := by
        have h9 := pcV_cf hC (by omega) x y
        rw [hN] at h9
        rw [← h9, e2, f2]
      rw [hv] at hc
      show Calls Tryz.prog 27 #[zs (clN N x), zs (clN N y)] _ _
      rw [e1, f1]
      exact hc.mono fun e w' ⟨h1, h2⟩ => ⟨h1, 0, #[], by rw [Go.Sort.grow_empty, ← h2]; rfl⟩
    have hsz : l.toArray.size = n := by simpa using hlen
    have h := Any.slices_SortFunc (P := Tryz.prog) (ρ := sortL_ren) sortL (fun k => zs (clN N k)) (fun k => by
        obtain ⟨p, c, a, b, e1, _⟩ := hrow _ (clN_lt (k := k) hN0)
        show (zs (clN N k)).oneCell' = true
        rw [e1]
        rfl) (cfN N) (swo_cfN N) 27 #[] g 0 cu l.toArray w (enters_of Tryz.func27 (by kernel_rfl) rfl) hcmp (holds_own hown) hgl (by rw [hsz]; omega)
    rw [hsz] at h
    refine Calls.mono h fun e w' ⟨h1, d', m, os, hp, hs, hw⟩ => ⟨h1, d'.toList, ?_⟩
    have hds : d'.size = n := by rw [hp.1]; exact hsz
    have hperm : d'.toList.Perm l := by
      have h9 := hp.2.2
      rw [show d'.extract 0 n = d' by rw [← hds]; exact Array.extract_size, show l.toArray.extract 0 n = l.toArray by rw [← hsz]; exact Array.extract_size] at h9
      simpa using h9
    have hnd' := hperm.nodup_iff.2 hnd
    have hmem : ∀ k, k ∈ d'.toList ↔ k ∈ l := fun k => hperm.mem_iff
    refine ⟨?_, hmem, by simpa using hds, ?_, ?_⟩
    · rw [List.pairwise_iff_getElem]
      intro i j hi hj hij
      have hi' : i < d'.size := by simpa using hi
      have hj' : j < d'.size := by simpa using hj
      have hb := hs i j (Nat.zero_le _) hij (by omega)
      rw [lt_cfN, getElem!_pos d' i hi', getElem!_pos d' j hj'] at hb
      have m1 : d'[i] < N := hl _ ((hmem _).1 (by simp))
      have m2 : d'[j] < N := hl _ ((hmem _).1 (by simp))
      rw [clN_id m1, clN_id m2] at hb
      have hne : d'.toList[i] ≠ d'.toList[j] := fun e => by
        have := (List.getElem_inj hnd').1 e
        omega
      simp only [Array.getElem_toList] at hne ⊢
      simp at hb
      omega
    · rw [hw]
      have := sorted_own (enc := fun k => zs (clN N k)) (m := m) (os := os) hown d'.toList (by simpa using hds)
      simpa using this
    · rw [hw]
      exact sorted_far d'
end Go.Proofs.YtahbcnclhohnaaaGreat
