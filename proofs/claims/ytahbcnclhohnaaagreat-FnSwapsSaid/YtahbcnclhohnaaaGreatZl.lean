/- Several small texts in one: SwC, SwD. -/
import Derived.Test.YtahbcnclhohnaaaGreatZk
import Derived.Test.YtahbcnclhohnaaaGreatShuf
import Derived.Test.YtahbcnclhohnaaaGreatZh
import Derived.Test.YtahbcnclhohnaaaGreatYw
namespace Go.Proofs.YtahbcnclhohnaaaGreat

section
open Go.RowKit

/-- What is chosen so far: the records used, the pairs taken, their count. -/
structure SpS where
  used : List Int
  ch : List Bool
  n : Nat
def spP (C : List (List Int)) (k i : Nat) : Int := (C[k]?.getD [])[i]?.getD 0
def spYes (C : List (List Int)) (most : Int) (s : SpS) (k : Nat) : Bool := decide ((s.n : Int) < most) && (!hasB s.used (spP C k 0) && !hasB s.used (spP C k 1))
def spStep (C : List (List Int)) (most : Int) (s : SpS) (k : Nat) : SpS := if spYes C most s k = true then ⟨s.used ++ [spP C k 0, spP C k 1], s.ch.set k true, s.n + 1⟩ else s
def spSt (C : List (List Int)) (most : Int) (ord : List Int) : Nat → SpS
  | 0 => ⟨[], List.replicate C.length false, 0⟩
  | j + 1 => spStep C most (spSt C most ord j) (ord[j]?.getD 0).toNat
/-- The indices taken, of the first t. -/
def spK (ch : List Bool) (t : Nat) : List Nat := (List.range t).filter fun k => ch[k]?.getD false
def spR (C : List (List Int)) (ch : List Bool) (t : Nat) : List (List Int) := (spK ch t).map fun k => C[k]?.getD []
section
variable {C : List (List Int)} {most : Int} {ord : List Int} {ch : List Bool} {t j : Nat}
theorem spStep_yes {s : SpS} {k : Nat} (h : spYes C most s k = true) : spStep C most s k = ⟨s.used ++ [spP C k 0, spP C k 1], s.ch.set k true, s.n + 1⟩ := by rw [spStep, if_pos h]
theorem spStep_no {s : SpS} {k : Nat} (h : spYes C most s k = false) : spStep C most s k = s := by rw [spStep, if_neg (by simp [h])]
theorem spSt_len (C : List (List Int)) (most : Int) (ord : List Int) : ∀ j, (spSt C most ord j).ch.length = C.length ∧ (spSt C most ord j).used.length ≤ 2 * j ∧ (spSt C most ord j).n ≤ j := by
  intro j
  induction j with
  | zero => simp [spSt]
  | succ j ih =>
    simp only [spSt]
    generalize (ord[j]?.getD 0).toNat = k
    cases h : spYes C most (spSt C most ord j) k
    · rw [spStep_no h]; omega
    · rw [spStep_yes h]; simp; omega
theorem spK_yes (h : ch[t]?.getD false = true) : spK ch (t + 1) = spK ch t ++ [t] := by simp [spK, List.range_succ, h]
theorem spK_no (h : ch[t]?.getD false = false) : spK ch (t + 1) = spK ch t := by simp [spK, List.range_succ, h]
theorem spK_len (ch : List Bool) (t : Nat) : (spK ch t).length ≤ t := by
  have := List.length_filter_le (fun k => ch[k]?.getD false) (List.range t)
  simpa [spK] using this
theorem spR_len (C : List (List Int)) (ch : List Bool) (t : Nat) : (spR C ch t).length = (spK ch t).length := by simp [spR]
theorem spK_lt (hi : j < (spK ch t).length) : (spK ch t)[j]?.getD 0 < t := by
  have h1 : (spK ch t)[j] ∈ spK ch t := List.getElem_mem hi
  rw [List.getElem?_eq_getElem hi, Option.getD_some]
  simp only [spK, List.mem_filter, List.mem_range] at h1
  exact h1.1
theorem spK_mono {i : Nat} (hij : i < j) (hi : j < (spK ch t).length) : (spK ch t)[i]?.getD 0 < (spK ch t)[j]?.getD 0 := by
  have hp : (spK ch t).Pairwise (· < ·) := List.Pairwise.filter _ List.pairwise_lt_range
  rw [List.getElem?_eq_getElem hi, List.getElem?_eq_getElem (by omega)]
  exact List.pairwise_iff_getElem.1 hp i j (by omega) hi hij
/-- A shuffle moves numbers only. -/
theorem shufT_mem {s : Int} : ∀ (k : Nat) (l : List Int) (a : Int) (r : List Int) (b : Int) (n : Nat), shufT s k l a = some (r, b) → l.length = n → (∀ i, i < n → 0 ≤ l[i]?.getD 0 ∧ l[i]?.getD 0 < n) → k < n ∨ k = 0 → 0 ≤ a → a ≤ 1000000 → r.length = n ∧ ∀ i, i < n → 0 ≤ r[i]?.getD 0 ∧ r[i]?.getD 0 < n := by
  intro k
  induction k with
  | zero =>
    intro l a r b n h hl hb _ _ _
    simp only [shufT, Option.some.injEq, Prod.mk.injEq] at h
    obtain ⟨rfl, _⟩ := h
    exact ⟨hl, hb⟩
  | succ k ih =>
    intro l a r b n h hl hb hk h0 h1
    cases hM : belowM s (((k + 2 : Nat)) : Int) a with
    | none => rw [shufT_none hM] at h; cases h
    | some p =>
      obtain ⟨v, a'⟩ := p
      rw [shufT_some hM] at h
      have hv := belowM_bd hM h0 h1
      refine ih _ a' r b n h (by rw [swapL_len]; exact hl) (fun i hi => ?_) (by omega) hv.2.2.1 hv.2.2.2
      have e1 := hb (k + 1) (by omega)
      have e2 := hb v.toNat (by omega)
      have e3 := hb i hi
      unfold swapL
      rw [getD_set, getD_set]
      split
      · exact e1
      · split
        · exact e2
        · exact e3
theorem iota_bd (n : Nat) : (iota n).length = n ∧ ∀ i, i < n → 0 ≤ (iota n)[i]?.getD 0 ∧ (iota n)[i]?.getD 0 < n := by
  refine ⟨tabl_len _ _, fun i hi => ?_⟩
  unfold iota
  rw [tabl_at hi]
  omega
end
end

section
open Go.RowKit

def planOk (vs : List (ByteArray × Int)) (rs : List RecD) (us : List Int) (most sd : Int) : Bool := keyedB vs rs us && (inR most 0 20 && inR sd 0 4611686016279904236)
def planC (vs : List (ByteArray × Int)) (rs : List RecD) (us : List Int) : List (List Int) := candT vs us rs rs.length rs.length
/-- The pairs that the plan takes. -/
def planV (vs : List (ByteArray × Int)) (rs : List RecD) (us : List Int) (most sd : Int) : Option (List (List Int)) :=
  if planOk vs rs us most sd = true ∧ (planC vs rs us).length ≤ 60 then (shufT sd ((planC vs rs us).length - 1) (iota (planC vs rs us).length) 0).map fun p => spR (planC vs rs us) (spSt (planC vs rs us) most p.1 (planC vs rs us).length).ch (planC vs rs us).length else none
theorem planV_bad {vs : List (ByteArray × Int)} {rs : List RecD} {us : List Int} {most sd : Int} (h : planOk vs rs us most sd = false) : planV vs rs us most sd = none := by unfold planV; rw [if_neg (by simp [h])]
theorem planV_long {vs : List (ByteArray × Int)} {rs : List RecD} {us : List Int} {most sd : Int} (h : 60 < (planC vs rs us).length) : planV vs rs us most sd = none := by unfold planV; rw [if_neg (by omega)]
theorem planV_eq {vs : List (ByteArray × Int)} {rs : List RecD} {us : List Int} {most sd : Int} (h : planOk vs rs us most sd = true) (h2 : (planC vs rs us).length ≤ 60) : planV vs rs us most sd = (shufT sd ((planC vs rs us).length - 1) (iota (planC vs rs us).length) 0).map fun p => spR (planC vs rs us) (spSt (planC vs rs us) most p.1 (planC vs rs us).length).ch (planC vs rs us).length := by unfold planV; rw [if_pos ⟨h, h2⟩]
/-- A list of rows and whether it is there, given back. -/
def RetPl (w : World) (X : Option (List (List Int))) (e : Ending) (w' : World) : Prop :=
  ∃ A' c', e = .returned (.tuple #[.slice A' (X.getD []).length c', .bool X.isSome]) ∧ OwnII w' w.heap.size w'.heap.size A' (X.getD []).length c' (fun t => (X.getD [])[t]?.getD []) ∧ Below w.heap.size w w'

theorem Tryz.infoTr : (Tryz.prog.info? 4).map (fun i => (i.zero, i.size, i.bytes)) = some (some (.bool false), 1, 1) := by kernel_rfl
theorem map_replicateTr (n : Nat) : (madeCells (Value.bool false).cells (n * 1)).toList = (List.replicate n false).map Value.bool := by
  rw [Nat.mul_one, List.map_replicate]
  exact toList_madeCells_one _ _
/-- A row of truths of the call's own. -/
def OwnTr (w : World) (B g n : Nat) (bs : List Bool) : Prop := w.ownsRow B 4 1 (.slice (some ⟨g, 0, none⟩) n n) n (bs.map Value.bool)
theorem OwnTr.at_ {w : World} {B g n k : Nat} {bs : List Bool} (h : OwnTr w B g n bs) (hk : k < n) : g < w.heap.size ∧ w.cell? ⟨g, k, none⟩ = some (.bool (bs[k]?.getD false)) ∧ w.frozen? ⟨g, k, none⟩ = false := by
  have hl : bs.length = n := by have := h.1; simpa using this
  rcases h.2 with ⟨hv, _⟩ | ⟨g', cap, cur, hv, _, hg, _⟩
  · simp at hv
  · simp only [Value.slice.injEq, Option.some.injEq, Addr.mk.injEq, and_true] at hv
    obtain ⟨rfl, _⟩ := hv
    refine ⟨lt_of_block hg, ?_, World.ownsRow.frozenAt h k⟩
    rw [World.ownsRow.cellAt h k (by omega)]
    rw [List.getElem?_map, List.getElem?_eq_getElem (by omega)]
    rfl
theorem OwnTr.set {w : World} {B g n k : Nat} {bs : List Bool} {x : Bool} (h : OwnTr w B g n bs) : OwnTr (w.setCell ⟨g, k, none⟩ (.bool x)) B g n (bs.set k x) := by
  have := (World.ownsRow.stored h k (.bool x)).1
  unfold OwnTr
  rw [List.map_set]
  exact this
theorem OwnTr.kept {w w' : World} {B g n : Nat} {bs : List Bool} {D : Option Addr} (h : OwnTr w B g n bs) (hg : w.grownBy w' (rowOf D)) (hne : ∀ q, rowOf D = some q → g < q) : OwnTr w' B g n bs :=
  World.ownsRow.kept h hg (.inr (fun e => by have := hne g e.symm; omega))
theorem Own.farCell {w : World} {B n c : Nat} {A : Option Addr} {xs : List Int} {p : Addr} {v : Value} (h : Own w B A n c xs) (hp : p.block < B) : Own (w.setCell p v) B A n c xs := h.keep fun gg hA _ => Below.heap_setCell w p v gg (by have := (h.row_ge gg (by rw [hA]; rfl)).1; omega)
/-- Some of the rows, in their order. -/
theorem Sub.pick {w w' : World} {lo hi n k : Nat} {ys zs : List Value} {L L' : Nat → List Int} {f : Nat → Nat} (h : Sub w lo hi ys 1 0 L 0 n) (hf : ∀ j, j < k → f j < n) (hm : ∀ i j, i < j → j < k → f i < f j) (hz : ∀ j, j < k → zs[j]? = ys[f j]?) (hL : ∀ j, j < k → L' j = L (f j))
    (hw : ∀ V m c xs, OwnI w lo hi V m c xs → OwnI w' lo w'.heap.size V m c xs) : Sub w' lo w'.heap.size zs 1 0 L' 0 k := by
  have e1 : ∀ t : Nat, t * 1 + 0 = t := fun t => by omega
  refine ⟨fun j h1 h2 => ?_, fun i j b h1 h2 h3 hi hj => ?_⟩
  · obtain ⟨V, c, e, ho⟩ := h.row (f j) (Nat.zero_le _) (hf j h2)
    rw [e1] at e ⊢
    rw [hz j h2, hL j h2]
    exact ⟨V, c, e, hw _ _ _ _ ho⟩
  · rw [e1] at hi hj
    rw [hz i (by omega)] at hi
    rw [hz j h3] at hj
    exact h.apart (f i) (f j) b (Nat.zero_le _) (hm i j h2 h3) (hf j h3) (by rw [e1]; exact hi) (by rw [e1]; exact hj)

theorem pick_snoc {ys zs : List Value} {f : List Nat} {t : Nat} {v : Value} (hl : ys.length = f.length) (h : ∀ q, q < f.length → ys[q]? = zs[f[q]?.getD 0]?) (hv : zs[t]? = some v) : ∀ q, q < (f ++ [t]).length → (ys ++ [v])[q]? = zs[(f ++ [t])[q]?.getD 0]? := by
  intro q hq
  rw [List.length_append] at hq
  have hq : q < f.length + 1 := hq
  rcases Nat.lt_or_ge q f.length with h1 | h1
  · rw [List.getElem?_append_left (by omega), List.getElem?_append_left h1, h q h1]
  · obtain rfl : q = f.length := by omega
    rw [List.getElem?_append_right (by omega), List.getElem?_append_right (Nat.le_refl _), hl, Nat.sub_self]
    exact hv.symm

section
variable {C : List (List Int)} {most : Int} {ord : List Int} {ch : List Bool} {t j k : Nat} {a b : Int}
theorem spYes_eq {s : SpS} (hC : C[k]?.getD [] = [a, b]) : spYes C most s k = (decide ((s.n : Int) < most) && (!hasB s.used a && !hasB s.used b)) := by unfold spYes spP; rw [hC]; rfl
theorem spSt_no (hv : (ord[j]?.getD 0) = (k : Int)) (h : spYes C most (spSt C most ord j) k = false) : spSt C most ord (j + 1) = spSt C most ord j := by rw [spSt, hv, Int.toNat_natCast, spStep_no h]
theorem spSt_yes (hv : (ord[j]?.getD 0) = (k : Int)) (hC : C[k]?.getD [] = [a, b]) (h : spYes C most (spSt C most ord j) k = true) : spSt C most ord (j + 1) = ⟨(spSt C most ord j).used ++ [a, b], (spSt C most ord j).ch.set k true, (spSt C most ord j).n + 1⟩ := by
  rw [spSt, hv, Int.toNat_natCast, spStep_yes h]
  unfold spP
  rw [hC]
  rfl
theorem spR_at (h : j < (spK ch t).length) : (spR C ch t)[j]?.getD [] = C[(spK ch t)[j]?.getD 0]?.getD [] := by
  unfold spR
  rw [List.getElem?_map, List.getElem?_eq_getElem h]
  rfl
end

set_option maxRecDepth 100000 in
set_option maxHeartbeats 4000000 in
theorem swapPlan_any (A B U : Option Addr) (n c m d l k' : Nat) (most sd : Int) (vs : List (ByteArray × Int)) (rs : List RecD) (us : List Int) (w : World) (hx : SchR w A n c vs) (hy : DatR w B m rs) (hu : IntR w U l us) :
    Calls Tryz.prog 7 #[.slice A n c, .slice B m d, .slice U l k', .int .i64 most, .int .i64 sd] w (RetPl w (planV vs rs us most sd)) := by
  have hlen := hx.len
  have hml := hy.len
  cases h0 : keyedB vs rs us
  · have H0 := Lib.hid h0
    have R := Lib.hid (planV_bad (show planOk vs rs us most sd = false by unfold planOk; rw [h0]; rfl))
    rw [R.out]
    clear h0 hlen hml
    go_enter Tryz.func7, Tryz.ntmps7
    go_wp2_with fail
    refine (swInput_any _ _ _ n _ m _ l _ vs rs us _ hx hy hu).mono ?_
    rintro e w1 ⟨rfl, b1⟩
    rw [H0.out]
    have B1 := Lib.hid b1
    clear b1 hx hy hu
    go_wp2
    go_ret2
    exact ⟨none, 0, rfl, OwnII.nil_, B1.out⟩
  have H0 := Lib.hid h0
  cases h1 : inR most 0 20
  · have H1 := Lib.hid h1
    have R := Lib.hid (planV_bad (show planOk vs rs us most sd = false by unfold planOk; rw [h0, h1]; rfl))
    rw [R.out]
    clear h0 h1 hlen hml
    go_enter Tryz.func7, Tryz.ntmps7
    go_wp2_with fail
    refine (swInput_any _ _ _ n _ m _ l _ vs rs us _ hx hy hu).mono ?_
    rintro e w1 ⟨rfl, b1⟩
    rw [H0.out]
    have B1 := Lib.hid b1
    clear b1 hx hy hu
    go_wp2_with fail
    refine (l1In_any _ _ _ _).mono ?_
    rintro e w2 ⟨rfl, rfl⟩
    rw [H1.out]
    go_wp2
    go_ret2
    exact ⟨none, 0, rfl, OwnII.nil_, B1.out⟩
  have H1 := Lib.hid h1
  cases h2 : inR sd 0 4611686016279904236
  · have H2 := Lib.hid h2
    have R := Lib.hid (planV_bad (show planOk vs rs us most sd = false by unfold planOk; rw [h0, h1, h2]; rfl))
    rw [R.out]
    clear h0 h1 h2 hlen hml
    go_enter Tryz.func7, Tryz.ntmps7
    go_wp2_with fail
    refine (swInput_any _ _ _ n _ m _ l _ vs rs us _ hx hy hu).mono ?_
    rintro e w1 ⟨rfl, b1⟩
    rw [H0.out]
    have B1 := Lib.hid (b1.alloc b1.size (.cells #[.int .i64 sd] 3))
    have O := own_new w1 [sd] 1 rfl (by omega)
    clear b1 hx hy hu
    go_wp2_with fail
    refine (l1In_any _ _ _ _).mono ?_
    rintro e w2 ⟨rfl, rfl⟩
    rw [H1.out]
    go_wp2_with fail
    refine (hDigest_any _ _ _ [sd] _ O.ints (by omega)).mono ?_
    rintro e w2 ⟨rfl, rfl⟩
    rw [allR_one, H2.out]
    clear O
    go_wp2
    go_ret2
    exact ⟨none, 0, rfl, OwnII.nil_, B1.out⟩
  have H2 := Lib.hid h2
  have hok : planOk vs rs us most sd = true := by unfold planOk; rw [h0, h1, h2]; rfl
  have hk := keyed_all hlen h0
  have RL := Lib.hid (fun h => planV_long (vs := vs) (rs := rs) (us := us) (most := most) (sd := sd) h)
  have RE := Lib.hid (fun h => planV_eq (vs := vs) (rs := rs) (us := us) (most := most) (sd := sd) hok h)
  have hCe : candT vs us rs m m = planC vs rs us := by unfold planC; rw [hml]
  have HC : Hid (∀ k, k < (planC vs rs us).length → ∃ a b : Int, (planC vs rs us)[k]?.getD [] = [a, b]) := Lib.hid fun k hk => by
    rw [List.getElem?_eq_getElem hk, Option.getD_some]
    have h9 : (planC vs rs us)[k] ∈ planC vs rs us := List.getElem_mem hk
    unfold planC at h9
    obtain ⟨i, j, e, _, _⟩ := candT_mem _ (Nat.le_refl _) h9
    exact ⟨i, j, by unfold planC; exact e⟩
  clear h0 h1 h2 hlen hok
  go_enter Tryz.func7, Tryz.ntmps7
  go_wp2_with fail
  refine (swInput_any _ _ _ n _ m _ l _ vs rs us _ hx hy hu).mono ?_
  rintro e w1 ⟨rfl, b1⟩
  rw [H0.out]
  have b2 := b1.alloc b1.size (.cells #[.int .i64 sd] 3)
  have O := own_new w1 [sd] 1 rfl (by omega)
  clear b1
  go_wp2_with fail
  refine (l1In_any _ _ _ _).mono ?_
  rintro e w2 ⟨rfl, rfl⟩
  rw [H1.out]
  go_wp2_with fail
  refine (hDigest_any _ _ _ [sd] _ O.ints (by omega)).mono ?_
  rintro e w2 ⟨rfl, rfl⟩
  rw [allR_one, H2.out]
  clear O
  go_wp2_with fail
  refine (swCandidates_any _ _ _ n _ m _ l _ vs rs us _ (hx.below b2) (hy.below b2) (hu.below b2) hk).mono ?_
  rintro e w2 ⟨A2, c2, rfl, o2, b2'⟩
  rw [hCe] at o2 ⊢
  have BB := b2.trans (b2'.mono b2.size)
  have hs0 := BB.size
  replace o2 := o2.fit b2.size
  have hsm := o2.small
  clear b2 b2' hx hy hu hk hCe H0 H1 H2
  generalize planC vs rs us = C at *
  generalize planV vs rs us most sd = PV at *
  by_cases h3 : C.length ≤ 60
  · have RR := Lib.hid (RE.out h3)
    clear RL RE
    go_wp2_with fail
    refine (kOpen_any _ _ _).mono ?_
    rintro e w3 ⟨g, rfl, hr, hg, b3⟩
    have hs3 := b3.size
    go_wp2_with fail
    refine (kshuffle_any g sd 0 C.length _ hr (by omega) (by omega) h3).mono ?_
    rintro e w4 ⟨A4, c4, ol, b, ok, rfl, hown, hr4, hst, hc⟩
    have b4 := hc.below b3 hg hs3
    have hs4 := hc.size
    have q2 := box_cell hr4 2 _ rfl
    have HI := Lib.hid hown.ints
    clear hr b3 hc hown
    rcases hst with ⟨rfl, hM⟩ | ⟨rfl, hM⟩
    · have R := Lib.hid (show PV = some (spR C (spSt C most ol C.length).ch C.length) by rw [RR.out, hM]; rfl)
      have hbd := shufT_mem _ _ _ _ _ C.length hM (iota_bd _).1 (iota_bd _).2 (by omega) (by omega) (by omega)
      have HBD := Lib.hid hbd.2
      clear RR hM hbd
      obtain rfl : PV = some (spR C (spSt C most ol C.length).ch C.length) := R.out
      clear R hr4
      obtain ⟨zs, ho, hs⟩ := o2.cells
      have HZ := Lib.hid ho
      have HS := Lib.hid hs
      have HR := Lib.hid o2.read
      clear ho hs o2
      obtain ⟨i0, hi, hz00, hz1, hz2⟩ := info_parts Tryz.infoTr
      have sz4 : w2.heap.size ≤ w4.heap.size := b4.size
      go_wp2_with (at_make; refine wpList_make_full _ rfl _ _ 74 rfl w4.heap.size 4 i0 _ 1 Tryz.underlying74 hi hz00 hz1 .i64 .i64 _ _ C.length rfl rfl rfl rfl (by rw [hz2]; omega) (by unfold maxLen; omega) (Nat.le_refl _) ?_; intro w5 hown hg5; have b45 : Below w4.heap.size w4 w5 := (Below.refl _ _).grown hg5 (Nat.le_refl _) (by simp))
      rw [map_replicateTr] at hown
      have HT0 : OwnTr w5 w4.heap.size w4.heap.size C.length (List.replicate C.length false) := hown
      have hl5 : w4.heap.size < w5.heap.size := (World.ownsRow.lt hown w4.heap.size rfl).2
      clear hown hg5 hi hz00 hz1 hz2 q2
      have B4 := Lib.hid b4
      have B45 := Lib.hid b45
      clear b45 b4
      go_loopw [15, 17, 64] (fun u nn i wr => ∃ (j : Nat) (D : Option Addr) (cu : Nat), j ≤ C.length ∧ i = .int .i64 j ∧ nn = .int .i64 ((spSt C most ol j).n : Int) ∧ u = .slice D (spSt C most ol j).used.length cu ∧ Hid (Own wr w5.heap.size D (spSt C most ol j).used.length cu (spSt C most ol j).used) ∧ Hid (OwnTr wr w4.heap.size w4.heap.size C.length (spSt C most ol j).ch) ∧ Below w4.heap.size w4 wr ∧ Hid (w5.heap.size ≤ wr.heap.size)) (fun _ _ i _ => C.length - (intOf i).toNat)
      case atStart => exact ⟨0, none, 0, Nat.zero_le _, rfl, rfl, rfl, Lib.hid Own.nil_, Lib.hid HT0, B45.out, Lib.hid (Nat.le_refl _)⟩
      case round =>
        clear HT0
        obtain ⟨j, D, cu, hj, rfl, rfl, rfl, HO, HT, hbw, h5r⟩ := hrel
        have hszr := hbw.size
        have hs5r : w5.heap.size ≤ wr.heap.size := h5r.out
        by_cases hlt : j < C.length
        · obtain ⟨hv0, hv1⟩ := HBD.out j hlt
          obtain ⟨ad4, rfl, q4⟩ := (HI.out.below hbw).at_ hlt
          obtain ⟨k, hkv⟩ := Int.eq_ofNat_of_zero_le hv0
          rw [hkv] at q4 hv0 hv1
          have hkC : k < C.length := by omega
          have bw2 := B4.out.trans (hbw.mono sz4)
          obtain ⟨ad2, rfl, V, cc, q5, hV⟩ := (HR.out.below bw2).at_ hkC
          obtain ⟨a, b', hab⟩ := HC.out k hkC
          rw [hab] at q5 hV
          have HV := Lib.hid hV
          obtain ⟨ad6, rfl, p0⟩ := hV.at_ (show 0 < [a, b'].length by simp)
          obtain ⟨ad6', e6, p1⟩ := hV.at_ (show 1 < [a, b'].length by simp)
          simp only [Option.some.injEq] at e6
          subst e6
          replace p0 : wr.cell? (ad6.add 0) = some (.int .i64 a) := p0
          have p00 : wr.cell? ad6 = some (.int .i64 a) := by have := p0; simpa [Addr.add] using this
          replace p1 : wr.cell? (ad6.add 1) = some (.int .i64 b') := p1
          have p11 : wr.cell? { block := ad6.block, off := ad6.off + 1, spot := none } = some (.int .i64 b') := by have := p1; simpa [Addr.add] using this
          replace q5 : wr.cell? (ad2.add k) = some (.slice (some ad6) 2 cc) := q5
          have hbn := spSt_len C most ol j
          have HN := Lib.hid (fun h => spSt_no (C := C) (most := most) (ord := ol) (j := j) (k := k) hkv h)
          have HY := Lib.hid (fun h => spSt_yes (C := C) (most := most) (ord := ol) (j := j) (k := k) hkv hab h)
          have HQ := Lib.hid (spYes_eq (most := most) (s := spSt C most ol j) hab)
          generalize hS9 : spSt C most ol j = S at *
          clear hS9 hV hab hkv
          have hu1 : S.used.length ≤ 1099511627776 := by omega
          have hIU := Lib.hid (IntR.mk HO.out.ints hu1)
          have ht3 := HT.out.at_ hkC
          have NO : Hid (spYes C most S k = false → ∃ (j_1 : Nat) (D_1 : Option Addr) (cu_1 : Nat), j_1 ≤ C.length ∧ Value.int .i64 ((j + 1 : Nat) : Int) = .int .i64 j_1 ∧ Value.int .i64 (S.n : Int) = .int .i64 ((spSt C most ol j_1).n : Int) ∧ Value.slice D S.used.length cu = .slice D_1 (spSt C most ol j_1).used.length cu_1 ∧ Hid (Own wr w5.heap.size D_1 (spSt C most ol j_1).used.length cu_1 (spSt C most ol j_1).used) ∧ Hid (OwnTr wr w4.heap.size w4.heap.size C.length (spSt C most ol j_1).ch) ∧ Below w4.heap.size w4 wr ∧ Hid (w5.heap.size ≤ wr.heap.size)) := Lib.hid fun hno => by
            have e := HN.out hno
            refine ⟨j + 1, D, cu, by omega, rfl, ?_, ?_, ?_, ?_, hbw, h5r⟩ <;> rw [e]
            · exact HO
            · exact HT
          by_cases h1 : (S.n : Int) < most
          · cases hA : hasB S.used a
            · cases hB : hasB S.used b'
              · have hyes := HY.out (by rw [HQ.out, hA, hB]; simp [h1])
                have HE := Lib.hid hyes
                have HA := Lib.hid hA
                have HB := Lib.hid hB
                clear HN HY HQ NO hyes hA hB
                go_wp2_with fail
                refine (l1Has_any _ _ _ a S.used _ hIU.out).mono ?_
                rintro e w8 ⟨rfl, rfl⟩
                rw [HA.out]
                go_wp2_with fail
                refine (l1Has_any _ _ _ b' S.used _ hIU.out).mono ?_
                rintro e w8 ⟨rfl, rfl⟩
                rw [HB.out]
                have HOp := HO.out
                go_wp2_with (at_builtin; refine wp_app rfl _ _ rfl w5.heap.size D S.used.length cu S.used rfl HOp (some ad6) 2 cc [a, b'] rfl HV.out (by omega) hs5r ?_; intro D6 c6 w6 hown6 hg6 _; have T6 := HT.out.kept hg6 (fun q hq => by have := (HO.out.row_ge q hq).1; omega); have t6 := T6.at_ hkC; have HT6 := Lib.hid T6; have HO6 := Lib.hid hown6; have HSf := Lib.hid (Nat.le_trans hs5r hg6.size); have hb6 := Lib.hid (below_write hbw hg6 hszr (fun q hq => by have := (HO.out.row_ge q hq).1; omega)); clear T6 hown6 hg6 HOp)
                replace HSf : Hid (w5.heap.size ≤ (w6.setCell ⟨w4.heap.size, k, none⟩ (.bool true)).heap.size) := Lib.hid (by simpa using HSf.out)
                have HBf := Lib.hid (hb6.out.setCell (p := ⟨w4.heap.size, k, none⟩) (by simp) (.bool true))
                have HTf := Lib.hid (OwnTr.set (k := k) (x := true) HT6.out)
                have HOf := Lib.hid (Own.farCell (p := ⟨w4.heap.size, k, none⟩) (v := .bool true) HO6.out (by simp; omega))
                go_roundw
                case rel =>
                  refine ⟨j + 1, D6, c6, by omega, rfl, ?_, ?_, ?_, ?_, HBf.out, HSf⟩ <;> rw [HE.out]
                  · simp
                  · simp
                  · exact Lib.hid (by have := HOf.out; simpa using this)
                  · exact HTf
                case measure => simp [intOf]; omega
              · have HE := Lib.hid (NO.out (by rw [HQ.out, hB]; simp))
                have HA := Lib.hid hA
                have HB := Lib.hid hB
                clear HN HY HQ NO hA hB
                go_wp2_with fail
                refine (l1Has_any _ _ _ a S.used _ hIU.out).mono ?_
                rintro e w8 ⟨rfl, rfl⟩
                rw [HA.out]
                go_wp2_with fail
                refine (l1Has_any _ _ _ b' S.used _ hIU.out).mono ?_
                rintro e w8 ⟨rfl, rfl⟩
                rw [HB.out]
                go_wp2
                go_roundw
                case rel => exact HE.out
                case measure => simp [intOf]; omega
            · have HE := Lib.hid (NO.out (by rw [HQ.out, hA]; simp))
              have HA := Lib.hid hA
              clear HN HY HQ NO hA
              go_wp2_with fail
              refine (l1Has_any _ _ _ a S.used _ hIU.out).mono ?_
              rintro e w8 ⟨rfl, rfl⟩
              rw [HA.out]
              go_wp2
              go_roundw
              case rel => exact HE.out
              case measure => simp [intOf]; omega
          · have HE := Lib.hid (NO.out (by rw [HQ.out]; simp [h1]))
            clear HN HY HQ NO
            go_wp2
            go_roundw
            case rel => exact HE.out
            case measure => simp [intOf]; omega
        · obtain rfl : j = C.length := by omega
          clear HBD HI
          have hTT := HT.out
          clear HT
          generalize (spSt C most ol C.length).ch = ch at *
          clear HO
          obtain ⟨wo, rfl⟩ : ∃ wo : World, wo = wr := ⟨_, rfl⟩
          have hkd : decide ((C.length : Int) < C.length) = false := decide_eq_false (by omega)
          go_wp2
          clear hkd
          go_loopw [21, 102] (fun o i wr => ∃ (t : Nat) (D : Option Addr) (co : Nat) (ys : List Value), t ≤ C.length ∧ i = .int .i64 t ∧ o = .slice D (spK ch t).length co ∧ Hid (wr.ownsRow wo.heap.size 26 1 (.slice D (spK ch t).length co) (spK ch t).length ys) ∧ Hid (∀ q, q < (spK ch t).length → ys[q]? = zs[(spK ch t)[q]?.getD 0]?) ∧ Below wo.heap.size wo wr) (fun _ i _ => C.length - (intOf i).toNat)
          case atStart => exact ⟨0, none, 0, [], Nat.zero_le _, rfl, rfl, Lib.hid (World.ownsRow_nil _ _ _ _), Lib.hid (fun q h => absurd h (by simp [spK])), Below.refl _ _⟩
          case round =>
            obtain ⟨t, D, co, ys, ht, rfl, rfl, HO, HYS, hb9⟩ := hrel
            have hsz9 := hb9.size
            by_cases hlt : t < C.length
            · obtain ⟨V, cc, e5, hV⟩ := HS.out.row t (Nat.zero_le _) hlt
              rw [show t * 1 + 0 = t by omega] at e5
              have hb29 := B4.out.trans ((hbw.trans (hb9.mono hszr)).mono sz4)
              have HZ9 := Lib.hid (row_below HZ.out hb29)
              obtain ⟨g2, rfl, _, _⟩ := row_head HZ9.out (show 0 < C.length by omega)
              have q5 := (World.ownsRow.cellAt HZ9.out t (by have := HZ.out.1; omega)).trans e5
              have q6 := (hb9.cell (hTT.at_ hlt).1).trans (hTT.at_ hlt).2.1
              clear HS hb29
              have e5 : zs[t]? = some (.slice V (C[t]?.getD []).length cc) := e5
              replace q5 : wr.cell? ⟨g2, t, none⟩ = some (.slice V (C[t]?.getD []).length cc) := q5
              generalize (C[t]?.getD []).length = mm at *
              clear hV
              cases hP : ch[t]?.getD false
              · have E := Lib.hid (spK_no hP)
                rw [hP] at q6
                clear hP
                go_wp2
                go_roundw
                case rel => exact ⟨t + 1, D, co, ys, by omega, rfl, by rw [E.out], by rw [E.out]; exact HO, by rw [E.out]; exact HYS, hb9⟩
                case measure => simp [intOf]; omega
              · have E := Lib.hid (spK_yes hP)
                rw [hP] at q6
                clear hP
                have hkl := spK_len ch t
                have HYS2 := Lib.hid (pick_snoc (by have := HO.out.1; omega) HYS.out e5)
                have hoA := HO.out
                have hr1 := Lib.hid (fun q hq => (row_ge hoA q hq).1)
                have HBA := Lib.hid (hb9.alloc hsz9 (.cells #[.slice V mm cc] 26))
                clear e5 HYS HO hb9
                go_wp2_with (at_builtin; refine wp_appII1 rfl _ _ rfl wo.heap.size D _ co ys rfl hoA _ rfl (by simp) rfl (by omega) hsz9 ?_; intro D6 c6 w6 hown6 hg6)
                have HB6 := Lib.hid (HBA.out.grown hg6 (by simp; omega) hr1.out)
                have HO6 := Lib.hid hown6
                clear hoA hown6 hg6 HBA
                go_roundw
                case rel => exact ⟨t + 1, D6, c6, _, by omega, rfl, by rw [E.out, List.length_append]; rfl, by rw [E.out, List.length_append]; exact HO6, by rw [E.out]; exact HYS2, HB6.out⟩
                case measure => simp [intOf]; omega
            · obtain rfl : t = C.length := by omega
              have hb29 := B4.out.trans ((hbw.trans (hb9.mono hszr)).mono sz4)
              have hb09 := BB.trans (hb29.mono hs0)
              have hkl := spK_len ch C.length
              have HF := Lib.hid (show OwnII wr w.heap.size wr.heap.size D (spR C ch C.length).length co (fun t => (spR C ch C.length)[t]?.getD []) by
                rw [spR_len]
                exact ⟨⟨ys, row_mono HO.out (by omega), HS.out.pick (f := fun q => (spK ch C.length)[q]?.getD 0) (fun q h => spK_lt h) (fun i j hij hj => spK_mono hij hj) HYS.out (fun q h => spR_at h) (fun V m c xs hO => (hO.below hb29).fit (Nat.le_refl _))⟩, fun q hq => (row_ge HO.out q hq).2, by omega⟩)
              have HL := Lib.hid (spR_len C ch C.length)
              have HB := Lib.hid hb09
              clear hb29 hb09 HS HYS HO HZ
              go_wp2
              go_ret2
              exact ⟨D, co, congrArg (fun q => Ending.returned (.tuple #[.slice D q co, .bool true])) HL.out.symm, HF.out, HB.out⟩
    · have R := Lib.hid (show PV = none by rw [RR.out, hM]; rfl)
      have B4 := Lib.hid (BB.trans (b4.mono hs0))
      obtain rfl : PV = none := R.out
      clear RR hM hr4 b4 o2 R
      go_wp2
      go_ret2
      exact ⟨none, 0, rfl, OwnII.nil_, B4.out⟩
  · have R := Lib.hid (RL.out (by omega))
    obtain rfl : PV = none := R.out
    clear RL RE o2 R
    have hl60 : 60 < C.length := by omega
    have B4 := Lib.hid BB
    clear BB
    go_wp2
    go_ret2
    exact ⟨none, 0, rfl, OwnII.nil_, B4.out⟩
end
end Go.Proofs.YtahbcnclhohnaaaGreat
