/- GreatestSwaps of the program at valid data; printed by gfj.py. -/
import Derived.Test.YtahbcnclhohnaaaGreatFsI
namespace Go.Proofs.YtahbcnclhohnaaaGreat
open Go.RowKit Go.ChangeShapes Go.WideShapes

/-- How many of a list have each area. -/
def arA (F : List Int) : Array Value := ((List.range 30).map fun (v : Nat) => Value.int .i64 ((F.count (v : Int) : Nat) : Int)).toArray
theorem arA_at {F : List Int} {v : Nat} (h : v < 30) : (arA F)[v]? = some (.int .i64 ((F.count (v : Int) : Nat) : Int)) := by simp [arA, h]
theorem arA_set {F : List Int} {v : Nat} : (arA F).setIfInBounds v (.int .i64 (((F.count (v : Int) : Nat) : Int) + 1)) = arA (F ++ [(v : Int)]) := by
  apply Array.ext_getElem?
  intro t
  rw [Array.getElem?_setIfInBounds]
  have hs : (arA F).size = 30 := by simp [arA]
  have hs2 : (arA (F ++ [(v : Int)])).size = 30 := by simp [arA]
  rcases Nat.lt_or_ge t 30 with h | h
  · by_cases e : v = t
    · subst e
      rw [if_pos rfl, if_pos (by omega), arA_at h, List.count_append]
      simp
    · rw [if_neg e, arA_at h, arA_at h, List.count_append, List.count_singleton]
      have : ((v : Int) == (t : Int)) = false := by rw [beq_eq_false_iff_ne]; omega
      rw [this]; simp
  · by_cases e : v = t
    · subst e
      rw [if_pos rfl, if_neg (by omega), Array.getElem?_eq_none (by omega)]
    · rw [if_neg e, Array.getElem?_eq_none (by omega), Array.getElem?_eq_none (by omega)]
/-- The areas of the first q of a group. -/
def arF (rs : List RecD) (zs : List Int) (q : Nat) : List Int := (zs.take q).map fun x => rA rs x.toNat
theorem arF_succ {rs : List RecD} {zs : List Int} {q i : Nat} (hq : q < zs.length) (hi : zs[q]?.getD 0 = (i : Int)) : arF rs zs (q + 1) = arF rs zs q ++ [rA rs i] := by
  unfold arF
  rw [List.take_succ_eq_append_getElem hq, List.map_append]
  have e : zs[q] = (i : Int) := by rw [List.getElem?_eq_getElem hq] at hi; exact hi
  rw [e]; rfl
theorem arF_count (rs : List RecD) (f : Nat → Int) (k a : Int) (m : Nat) : (arF rs (grp f k m) (grp f k m).length).count a = kaC f (rA rs) k a m := by
  unfold arF grp kaC
  rw [List.take_length, List.map_map, List.count, List.countP_map, List.countP_filter]
  refine List.countP_congr fun i _ => ?_
  simp [and_comm]
/-- The greatest of the counts. -/
def MxG (F : List Int) (M : Int) : Prop := ∃ a : Int, M = (F.count a : Nat)
theorem MxG.next1 {F : List Int} {v : Int} : MxG (F ++ [v]) (((F.count v : Nat) : Int) + 1) := ⟨v, by rw [List.count_append]; simp⟩
theorem MxG.next2 {F : List Int} {v M : Int} (h : MxG F M) (hm : ¬ M < ((F.count v : Nat) : Int) + 1) : MxG (F ++ [v]) M := by
  obtain ⟨a, rfl⟩ := h
  refine ⟨a, ?_⟩
  rw [List.count_append, List.count_singleton]
  by_cases e : v = a
  · subst e; omega
  · have : (v == a) = false := by rw [beq_eq_false_iff_ne]; exact e
    rw [this]; simp
/-- The sum over the first t keys. -/
def SumG (f g : Nat → Int) (m : Nat) (L : List Int) (t : Nat) (s : Int) : Prop := (∃ h : Int → Int, (∀ k ∈ L.take t, ∃ a : Int, h k = min (((kC f k m : Nat) : Int) / 2) ((kC f k m : Nat) - (kaC f g k a m : Nat))) ∧ s = sumK h (L.take t)) ∧ 0 ≤ s ∧ s ≤ 40 * t
theorem sumK_app (h : Int → Int) (a b : List Int) : sumK h (a ++ b) = sumK h a + sumK h b := by
  induction a with
  | nil => simp [sumK]
  | cons x a ih => simp [sumK, ih]; omega
theorem sumK_congr {h h2 : Int → Int} {ks : List Int} (e : ∀ k ∈ ks, h k = h2 k) : sumK h ks = sumK h2 ks := by
  induction ks with
  | nil => rfl
  | cons k ks ih => rw [sumK, sumK, e k (List.mem_cons_self), ih (fun q hq => e q (List.mem_cons_of_mem _ hq))]
theorem SumG.next {f g : Nat → Int} {m t : Nat} {L : List Int} {s v a k : Int} (h : SumG f g m L t s) (hn : L.Nodup) (ht : t < L.length) (hk : L[t]?.getD 0 = k) (hv : v = min (((kC f k m : Nat) : Int) / 2) ((kC f k m : Nat) - (kaC f g k a m : Nat))) (hc : kC f k m ≤ 40) (h0 : 0 ≤ v) : SumG f g m L (t + 1) (s + v) := by
  obtain ⟨⟨h, h1, rfl⟩, h2, h3⟩ := h
  have ek : L[t] = k := by rw [List.getElem?_eq_getElem ht] at hk; exact hk
  have eT : L.take (t + 1) = L.take t ++ [k] := by rw [List.take_succ_eq_append_getElem ht, ek]
  have hnk : ∀ q ∈ L.take t, q ≠ k := fun q hq e => by
    have h4 : (L.take (t + 1)).Nodup := hn.sublist (List.take_sublist _ _)
    rw [eT, List.nodup_append] at h4
    exact h4.2.2 q hq k (by simp) e
  refine ⟨⟨fun q => if q = k then v else h q, fun q hq => ?_, ?_⟩, by omega, by omega⟩
  · rw [eT, List.mem_append] at hq
    rcases hq with hq | hq
    · obtain ⟨a', e⟩ := h1 q hq
      exact ⟨a', by show (if q = k then v else h q) = _; rw [if_neg (hnk q hq)]; exact e⟩
    · rw [List.mem_singleton] at hq
      subst hq
      exact ⟨a, by show (if q = q then v else h q) = _; rw [if_pos rfl]; exact hv⟩
  · rw [eT, sumK_app]
    congr 1
    · exact sumK_congr (fun q hq => by rw [if_neg (hnk q hq)])
    · simp [sumK]

set_option maxRecDepth 100000 in
set_option maxHeartbeats 4000000 in
theorem implGreatestSwaps_any (A B U : Option Addr) (n c m d l k' : Nat) (vs : List (ByteArray × Int)) (rs : List RecD) (us : List Int) (w : World) (hx : SchR w A n c vs) (hy : DatR w B m rs) (hu : IntR w U l us) (hd : keyedB vs rs us = true) :
    Calls Tryz.prog 12 #[.slice A n c, .slice B m d, .slice U l k'] w fun e w' => ∃ (s : Int) (L : List Int), e = .returned (.tuple #[.int .i64 s, .bool true]) ∧ L.Nodup ∧ (∀ k, k ∈ L ↔ ∃ i, i < m ∧ kyF vs rs us i = k) ∧ SumG (kyF vs rs us) (rA rs) m L L.length s ∧ Below w.heap.size w w' := by
  have hml : rs.length = m := hy.r.1
  have hk := keyed_all hx.len hd
  have hm40 : m ≤ 40 := by have := hk.forty; rw [hml] at this; exact this
  have hdr : dataB vs rs = true := by have h := hd; unfold keyedB at h; simp only [Bool.and_eq_true] at h; exact h.2.1
  have HA : Hid (∀ j, j < m → 0 ≤ rA rs j ∧ rA rs j ≤ 29) := Lib.hid (fun j hj => by unfold dataB at hdr; simp only [Bool.and_eq_true] at hdr; have h := allTo_of hdr.2 j (by omega); unfold recOk recB at h; simp only [Bool.and_eq_true] at h; exact inR_of h.1)
  have HY := Lib.hid hy
  have HD := Lib.hid hd
  clear hml hdr hk
  obtain ⟨f, hf⟩ : ∃ f, Hid (kyF vs rs us = f) := ⟨_, Lib.hid rfl⟩
  rw [hf.out]
  go_enter Tryz.func12, Tryz.ntmps12
  go_wp2_with fail
  refine (areKeyed_any _ _ _ n _ m _ l _ vs rs us _ hx hy hu).mono ?_
  rintro e w1 ⟨rfl, b1⟩
  rw [HD.out]
  go_wp2_with fail
  refine (implKeyGroups_any A B U n c m d l k' vs rs us _ (hx.below b1) (hy.below b1) (hu.below b1) HD.out).mono ?_
  rintro e w2 ⟨P, cp, L, rfl, hnd, hl40, hmem, hg, b2'⟩
  have b2 := b1.trans (b2'.mono b1.size)
  rw [hf.out] at hmem hg
  have HND := Lib.hid hnd
  have HMEM := Lib.hid hmem
  have HG := Lib.hid hg
  have B2 := Lib.hid b2
  have S0 : Hid (SumG f (rA rs) m L 0 0) := Lib.hid ⟨⟨fun _ => 0, fun k hk => by simp at hk, by simp [sumK]⟩, by omega, by omega⟩
  have B0 := Lib.hid (Below.refl w2.heap.size w2)
  have hs2 := b2.size
  clear hx hy hu hd HD b1 b2 b2' hnd hmem hg
  go_wp2
  go_loopw [8, 25] (fun a i wr => ∃ (t : Nat) (s : Int), t ≤ L.length ∧ i = .int .i64 t ∧ a = .int .i64 s ∧ Hid (SumG f (rA rs) m L t s) ∧ Hid (Below w2.heap.size w2 wr)) (fun _ i _ => L.length - (intOf i).toNat)
  case atStart => exact ⟨0, 0, Nat.zero_le _, rfl, rfl, S0, B0⟩
  case round =>
    clear S0 B0
    obtain ⟨t, s, ht, rfl, rfl, HS, HB⟩ := hrel
    by_cases hlt : t < L.length
    case pos =>
      obtain ⟨wo, rfl⟩ : ∃ wo : World, wo = wr := ⟨_, rfl⟩
      obtain ⟨ad, rfl, V, cv, hc1, hv⟩ := (HG.out.below HB.out).at_ hlt
      obtain ⟨k, hk⟩ : ∃ k, Hid (L[t]?.getD 0 = k) := ⟨_, Lib.hid rfl⟩
      rw [hk.out] at hv hc1
      have hlen := grp_le f k m
      have HKC := Lib.hid (grp_len f k m)
      obtain ⟨ln, hln⟩ : ∃ ln, Hid ((grp f k m).length = ln) := ⟨_, Lib.hid rfl⟩
      rw [hln.out] at hv hc1 hlen
      have HV := Lib.hid hv
      have hs0 := HS.out.2.1
      have hs1 := HS.out.2.2
      have HXA := Lib.hid (box_new wo (arA []) 87)
      have bA := below_new wo (.cells (arA []) 87)
      have HBA := Lib.hid bA
      have M0 : Hid (MxG (arF rs (grp f k m) 0) 0) := Lib.hid ⟨0, by simp [arF]⟩
      have X0 : Hid ((wo.alloc (.cells (arA []) 87)).heap[wo.heap.size]? = some (.cells (arA (arF rs (grp f k m) 0)) 87 (0, 0))) := Lib.hid HXA.out
      have HC0 : Hid (arA [] = #[.int .i64 0, .int .i64 0, .int .i64 0, .int .i64 0, .int .i64 0, .int .i64 0, .int .i64 0, .int .i64 0, .int .i64 0, .int .i64 0, .int .i64 0, .int .i64 0, .int .i64 0, .int .i64 0, .int .i64 0, .int .i64 0, .int .i64 0, .int .i64 0, .int .i64 0, .int .i64 0, .int .i64 0, .int .i64 0, .int .i64 0, .int .i64 0, .int .i64 0, .int .i64 0, .int .i64 0, .int .i64 0, .int .i64 0, .int .i64 0]) := Lib.hid rfl
      clear hv bA HXA
      go_wp2_with fail
      rw [← HC0.out]
      clear HC0 hc1
      obtain ⟨gA, hgA⟩ : ∃ gA, Hid (wo.heap.size = gA) := ⟨_, Lib.hid rfl⟩
      rw [hgA.out] at X0 HBA ⊢
      generalize wo.alloc (.cells (arA []) 87) = w4 at *
      go_loopw [12, 31] (fun a i wq => ∃ (q : Nat) (M : Int), q ≤ ln ∧ i = .int .i64 q ∧ a = .int .i64 M ∧ Hid (wq.heap[gA]? = some (.cells (arA (arF rs (grp f k m) q)) 87 (0, 0))) ∧ Hid (MxG (arF rs (grp f k m) q) M) ∧ Hid (Below gA wo wq)) (fun _ i _ => ln - (intOf i).toNat)
      case atStart => exact ⟨0, 0, Nat.zero_le _, rfl, rfl, X0, M0, HBA⟩
      case round =>
        clear X0 M0 HBA
        obtain ⟨q, M, hq, rfl, rfl, X, HM, HBq⟩ := hrel
        have hM0 : 0 ≤ M ∧ M ≤ 40 := by
          obtain ⟨a, e⟩ := HM.out
          have h := List.count_le_length (a := a) (l := arF rs (grp f k m) q)
          have h2 : (arF rs (grp f k m) q).length ≤ q := by
            unfold arF
            rw [List.length_map, List.length_take]
            exact Nat.min_le_left _ _
          omega
        by_cases hql : q < ln
        case pos =>
          have HBw : Hid (Below wo.heap.size wo wr) := Lib.hid (HBq.out.mono (Nat.le_of_eq hgA.out))
          obtain ⟨av, rfl, hcv⟩ := (HV.out.below HBw.out).at_ hql
          obtain ⟨i0, hi0, _, hxe⟩ := grp_mem.1 (show (grp f k m)[q]?.getD 0 ∈ grp f k m by rw [List.getElem?_eq_getElem (by rw [hln.out]; exact hql)]; exact List.getElem_mem _)
          rw [hxe] at hcv
          have HBt := Lib.hid (HB.out.trans (HBw.out.mono HB.out.size))
          have HBu := Lib.hid (B2.out.trans (HBt.out.mono hs2))
          obtain ⟨ab, rfl, c00, _⟩ := HY.out.r.at_ hi0
          have hbk := block_lt_of_cell c00
          have c0 := (HBu.out.cell hbk).trans c00
          have hbg : (ab.add (i0 * 3)).block < gA := by have := HBt.out.size; have h8 := HB.out.size; have h9 := hgA.out; omega
          have ha := HA.out i0 hi0
          have HT := Lib.hid (arF_succ (rs := rs) (by rw [hln.out]; exact hql) hxe)
          have hFl : (arF rs (grp f k m) q).length ≤ 40 := by unfold arF; rw [List.length_map, List.length_take]; omega
          generalize rA rs i0 = va at *
          obtain ⟨va, rfl⟩ := Int.eq_ofNat_of_zero_le ha.1
          have hv30 : va < 30 := by omega
          generalize arF rs (grp f k m) q = Fl at *
          have hcnt : Fl.count (va : Int) ≤ 40 := Nat.le_trans List.count_le_length hFl
          have hcell := box_cell X.out va (.int .i64 ((Fl.count (va : Int) : Nat) : Int)) (arA_at hv30)
          have hfree := box_free X.out va
          have X5 := box_set X.out va (.int .i64 (((Fl.count (va : Int) : Nat) : Int) + 1))
          rw [arA_set, ← HT.out] at X5
          have hcell5 : (wr.setCell ⟨gA, va, none⟩ (.int .i64 (((Fl.count (va : Int) : Nat) : Int) + 1))).cell? ⟨gA, va, none⟩ = some (.int .i64 (((Fl.count (va : Int) : Nat) : Int) + 1)) := box_cell X5 va _ (by rw [HT.out, arA_at hv30, List.count_append]; simp)
          have hB5 := Below.setCell (p := ⟨gA, va, none⟩) HBq.out (Nat.le_refl gA) (.int .i64 (((Fl.count (va : Int) : Nat) : Int) + 1))
          have c05 := ((Below.setCell (p := ⟨gA, va, none⟩) (Below.refl gA wr) (Nat.le_refl _) (.int .i64 (((Fl.count (va : Int) : Nat) : Int) + 1))).cell hbg).trans c0
          clear hbk hbg c00
          have HB5 := Lib.hid hB5
          have X6 := Lib.hid X5
          have HM1 := Lib.hid (MxG.next1 (F := Fl) (v := (va : Int)))
          have HM2 := Lib.hid (fun h => HM.out.next2 (v := (va : Int)) h)
          rw [← HT.out] at HM1 HM2
          clear X5 hB5 X HM HT HBq HBw HBt HBu hxe
          generalize Fl.count (va : Int) = cn at *
          have HM3 : Hid (MxG (arF rs (grp f k m) (q + 1)) (max M ((cn : Int) + 1))) := Lib.hid (by
            by_cases hmx : M < (cn : Int) + 1
            · rw [Int.max_eq_right (by omega)]; exact HM1.out
            · rw [Int.max_eq_left (by omega)]; exact HM2.out hmx)
          clear HM1 HM2
          go_wp2
          go_roundw
          case rel => exact ⟨q + 1, _, by omega, by go_num, rfl, X6, HM3, HB5⟩
          case measure => simp [intOf]; omega
        case neg =>
          obtain rfl : q = ln := by omega
          obtain ⟨a, ha⟩ := HM.out
          have hac := arF_count rs f k a m
          rw [hln.out] at hac
          have hcl := List.count_le_length (a := a) (l := arF rs (grp f k m) q)
          have hal : (arF rs (grp f k m) q).length ≤ q := by
            unfold arF
            rw [List.length_map, List.length_take]
            exact Nat.min_le_left _ _
          have hkc : q = kC f k m := hln.out.symm.trans HKC.out
          have hMq : M ≤ q := by omega
          have S9 : Hid (SumG f (rA rs) m L (t + 1) (s + min ((q : Int) / 2) ((q : Int) - M))) := Lib.hid (HS.out.next (a := a) HND.out hlt hk.out (by rw [ha, hac, ← hkc]) (by omega) (by omega))
          have B9 := Lib.hid (HB.out.trans ((HBq.out.mono (Nat.le_of_eq hgA.out)).mono HB.out.size))
          clear hac ha hcl hal hkc X HM HBq HS HB
          have hdv : Int.tdiv (q : Int) 2 = (q : Int) / 2 := Int.tdiv_eq_ediv_of_nonneg (by omega)
          have HDV := Lib.hid hdv
          clear hdv
          go_wp2
          go_roundw
          case rel => refine ⟨t + 1, _, by omega, by go_num, rfl, ?_, B9⟩; exact S9
          case measure => simp [intOf]; omega
    case neg =>
      obtain rfl : t = L.length := by omega
      have hb9 := B2.out.trans (HB.out.mono hs2)
      go_wp2
      go_ret2
      exact ⟨s, L, rfl, HND.out, HMEM.out, HS.out, hb9⟩
end Go.Proofs.YtahbcnclhohnaaaGreat
