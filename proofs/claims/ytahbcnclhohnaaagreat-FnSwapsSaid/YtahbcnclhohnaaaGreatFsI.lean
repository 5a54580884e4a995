/- keyGroups of the program at valid data: a group for each key that occurs; printed by gfi.py. -/
import Derived.Test.YtahbcnclhohnaaaGreatFsM
import Derived.Test.YtahbcnclhohnaaaGreatZe
import Derived.Test.YtahbcnclhohnaaaGreatZf
import Derived.Test.YtahbcnclhohnaaaGreatZk
import Derived.Test.YtahbcnclhohnaaaGreatZh
namespace Go.Proofs.YtahbcnclhohnaaaGreat
open Go.RowKit Go.Maps Go.ChangeShapes Go.WideShapes

/-- The key of a record. -/
def kyF (vs : List (ByteArray × Int)) (rs : List RecD) (us : List Int) (i : Nat) : Int := keyV vs (rV rs i) us
/-- The map of the groups and the keys in the order in which they came. -/
structure KS (w : World) (gb : Nat) (f : Nat → Int) (j : Nat) (K : Option Addr) (c : Nat) (L : List Int) : Prop where
  g : MG w gb f j (fun q => rowOf K = some q)
  k : Own w (gb + 1) K L.length c L
  nd : L.Nodup
  mem : ∀ k, k ∈ L ↔ grp f k j ≠ []
  le : L.length ≤ j
theorem KS.below {w w' : World} {gb j c : Nat} {f : Nat → Int} {K : Option Addr} {L : List Int} (h : KS w gb f j K c L) (hb : Below w.heap.size w w') : KS w' gb f j K c L := ⟨h.g.below hb, h.k.below hb, h.nd, h.mem, h.le⟩
theorem KS.top {w : World} {gb j c : Nat} {f : Nat → Int} {K : Option Addr} {L : List Int} (h : KS w gb f j K c L) : ∀ q, rowOf K = some q → gb + 1 ≤ q ∧ q < w.heap.size := fun q hq => h.k.row_ge q hq
/-- Behind 'keys = append(keys, k)'. -/
theorem KS.app {w w6 : World} {gb j c c2 : Nat} {f : Nat → Int} {K K2 : Option Addr} {L : List Int} {k : Int} (h : KS w gb f j K c L) (hg : w.grownBy w6 (rowOf K)) (hloc : rowOf K2 = rowOf K ∨ rowOf K2 = some (w.heap.size + 1)) (_ho : Own w6 (gb + 1) K2 (L.length + 1) c2 (L ++ [k])) : MG w6 gb f j (fun q => rowOf K2 = some q) := by
  have hlt := h.g.lt
  have h1 : MG w gb f j (fun q => rowOf K = some q ∨ rowOf K2 = some q) := h.g.reno (fun q hq => by
    rcases hq with e | e
    · exact .inl e
    · rcases hloc with e2 | e2
      · exact .inl (e2 ▸ e)
      · rw [e2] at e; injection e with e; exact .inr (by omega))
  have h2 := h1.kept hg (fun e => by have := (h.top gb e.symm).1; omega) (fun q hq => .inl hq)
  exact h2.reno (fun q hq => .inl (.inr hq))
/-- Behind 'groups[k] = append(groups[k], j)'. -/
theorem KS.next {w6 w7 w8 : World} {gb j c2 : Nat} {f : Nat → Int} {A K2 : Option Addr} {L2 : List Int} (hK : Own w6 (gb + 1) K2 L2.length c2 L2) (hM : MG w8 gb f (j + 1) (fun q => rowOf K2 = some q)) (hg7 : w6.grownBy w7 (rowOf A)) (hsh : ∀ g, rowOf A = some g → ¬ rowOf K2 = some g) (hg8 : w7.grownBy w8 (some gb))
    (nd : L2.Nodup) (mem : ∀ k, k ∈ L2 ↔ grp f k (j + 1) ≠ []) (le : L2.length ≤ j + 1) : KS w8 gb f (j + 1) K2 c2 L2 := by
  have h7 := hK.far hg7 (fun g e e2 => hsh g e2 (by rw [e]; rfl))
  have h8 := h7.keep (w' := w8) (fun g e hlt => hg8.block g hlt (fun e2 => by have := (h7.row_ge g (by rw [e]; rfl)).1; injection e2 with e2; omega))
  exact ⟨hM, h8, nd, mem, le⟩
theorem mem_next {f : Nat → Int} {j : Nat} {L : List Int} (h : ∀ k, k ∈ L ↔ grp f k j ≠ []) (hz : grp f (f j) j ≠ []) : ∀ k, k ∈ L ↔ grp f k (j + 1) ≠ [] := fun k => by
  rw [h, grp_succ]
  by_cases c : f j = k
  · subst c; simp [hz]
  · rw [if_neg c]
theorem mem_next2 {f : Nat → Int} {j : Nat} {L : List Int} (h : ∀ k, k ∈ L ↔ grp f k j ≠ []) : ∀ k, k ∈ L ++ [f j] ↔ grp f k (j + 1) ≠ [] := fun k => by
  rw [List.mem_append, h, grp_succ, List.mem_singleton]
  by_cases c : f j = k
  · subst c; simp
  · rw [if_neg c]; simp only [or_iff_left_iff_imp]; exact fun e => absurd e.symm c
theorem nd_next {f : Nat → Int} {j : Nat} {L : List Int} (hn : L.Nodup) (h : ∀ k, k ∈ L ↔ grp f k j ≠ []) (hz : grp f (f j) j = []) : (L ++ [f j]).Nodup := by
  rw [List.nodup_append]
  refine ⟨hn, by simp, fun a ha b hb e => ?_⟩
  rw [List.mem_singleton] at hb
  subst hb; subst e
  exact (h _).1 ha hz
theorem nil_eqY (c : Nat) (w : World) : (binOp BinOp.eql 26 (.slice none 0 c) (.slice none 0 0)).run Tryz.prog w = .ok (.bool true) w := by kernel_rfl
theorem nil_eqN (a : Addr) (n c : Nat) (w : World) : (binOp BinOp.eql 26 (.slice (some a) n c) (.slice none 0 0)).run Tryz.prog w = .ok (.bool false) w := by kernel_rfl
/-- The rows that stand in the outer row. -/
def GRows (w : World) (gs gb : Nat) (f : Nat → Int) (m : Nat) (L : List Int) (t : Nat) (ys : List Value) : Prop := ∀ q, q < t → ∃ V cc, ys[q]? = some (.slice V (grp f (L[q]?.getD 0) m).length cc) ∧ Own w (gb + 1) V (grp f (L[q]?.getD 0) m).length cc (grp f (L[q]?.getD 0) m) ∧ ∀ g, rowOf V = some g → g < gs
theorem GRows.next {w w' : World} {gs gb m t : Nat} {f : Nat → Int} {L : List Int} {ys : List Value} {D V : Option Addr} {cc : Nat} (h : GRows w gs gb f m L t ys) (hl : ys.length = t) (hg : w.grownBy w' (rowOf D)) (hD : ∀ q, rowOf D = some q → gs ≤ q) (hV : Own w (gb + 1) V (grp f (L[t]?.getD 0) m).length cc (grp f (L[t]?.getD 0) m)) (hVs : ∀ g, rowOf V = some g → ¬ gs ≤ g) :
    GRows w' gs gb f m L (t + 1) (ys ++ [.slice V (grp f (L[t]?.getD 0) m).length cc]) := by
  intro q hq
  rcases Nat.lt_or_ge q t with h1 | h1
  · obtain ⟨V', c', e1, e2, e3⟩ := h q h1
    exact ⟨V', c', by rw [List.getElem?_append_left (by omega)]; exact e1, e2.far hg (fun g e e4 => by have := e3 g (by rw [e]; rfl); have := hD g e4; omega), e3⟩
  · obtain rfl : q = t := by omega
    exact ⟨V, cc, by rw [List.getElem?_append_right (by omega), hl, Nat.sub_self]; rfl, hV.far hg (fun g e e4 => by have := hVs g (by rw [e]; rfl); have := hD g e4; omega), fun g e => by have := hVs g e; omega⟩
theorem GRows.read {w : World} {gs gb m lo c t : Nat} {f : Nat → Int} {L : List Int} {ys : List Value} {D : Option Addr} (h : GRows w gs gb f m L t ys) (ho : w.ownsRow lo 26 1 (.slice D t c) t ys) : IntsS w D t (fun q => grp f (L[q]?.getD 0) m) := fun hn => by
  obtain ⟨g, rfl, _, _⟩ := row_head ho hn
  have hl := ho.1
  refine ⟨_, rfl, fun j hj => ?_⟩
  rw [addr_add0]
  obtain ⟨V, cc, e, hV, _⟩ := h j hj
  exact ⟨V, cc, (World.ownsRow.cellAt ho j (by omega)).trans e, hV.ints⟩

set_option maxRecDepth 100000 in
set_option maxHeartbeats 4000000 in
theorem implKeyGroups_any (A B U : Option Addr) (n c m d l k' : Nat) (vs : List (ByteArray × Int)) (rs : List RecD) (us : List Int) (w : World) (hx : SchR w A n c vs) (hy : DatR w B m rs) (hu : IntR w U l us) (hd : keyedB vs rs us = true) :
    Calls Tryz.prog 43 #[.slice A n c, .slice B m d, .slice U l k'] w fun e w' => ∃ (P : Option Addr) (cp : Nat) (L : List Int), e = .returned (.slice P L.length cp) ∧ L.Nodup ∧ L.length ≤ 40 ∧ (∀ k, k ∈ L ↔ ∃ i, i < m ∧ kyF vs rs us i = k) ∧ IntsS w' P L.length (fun t => grp (kyF vs rs us) (L[t]?.getD 0) m) ∧ Below w.heap.size w w' := by
  have hml : rs.length = m := hy.r.1
  have hk := keyed_all hx.len hd
  have hm40 : m ≤ 40 := by have := hk.forty; rw [hml] at this; exact this
  have HX := Lib.hid hx
  have HY := Lib.hid hy
  have HU := Lib.hid hu
  have HK := Lib.hid hk
  have HML := Lib.hid hml
  have hmm := @run_makeMap Tryz.prog
  clear hml hk hd
  obtain ⟨f, hf⟩ : ∃ f, Hid (kyF vs rs us = f) := ⟨_, Lib.hid rfl⟩
  have M0 := Lib.hid (MG.made w f (fun q => rowOf none = some q))
  have B0 := Lib.hid (below_new w (.map #[] 0))
  rw [hf.out]
  go_enter Tryz.func43, Tryz.ntmps43
  go_wp2
  clear hmm
  clear hx hy hu
  obtain ⟨gb, hgb⟩ : ∃ gb, Hid (w.heap.size = gb) := ⟨_, Lib.hid rfl⟩
  rw [hgb.out] at M0 B0 ⊢
  have hgw : gb ≤ w.heap.size := by rw [hgb.out]; exact Nat.le_refl _
  have S0 : Hid (KS (w.alloc (.map #[] 0)) gb f 0 none 0 []) := Lib.hid ⟨M0.out, Own.nil_, List.nodup_nil, fun k => by simp [grp], Nat.le_refl _⟩
  obtain ⟨w3, hw3⟩ : ∃ w3, w3 = w.alloc (.map #[] 0) := ⟨_, rfl⟩
  rw [← hw3] at S0 B0 ⊢
  clear hw3 M0
  go_loopw [8, 18] (fun a i wr => ∃ (j : Nat) (K : Option Addr) (cK : Nat) (L : List Int), j ≤ m ∧ i = .int .i64 j ∧ a = .slice K L.length cK ∧ Hid (KS wr gb f j K cK L) ∧ Hid (Below gb w wr)) (fun _ i _ => m - (intOf i).toNat)
  case atStart => exact ⟨0, none, 0, [], Nat.zero_le _, rfl, rfl, S0, B0⟩
  case round =>
    clear S0 B0
    obtain ⟨j, K, cK, L, hj, rfl, rfl, HS, HB⟩ := hrel
    by_cases hlt : j < m
    case pos =>
      have hsz := HB.out.size
      have hy9 := HY.out.below (HB.out.mono (Nat.le_of_eq hgb.out))
      have hl1 := hy9.s j hlt
      obtain ⟨ad, rfl, c0, c1, V, lv, cv, c2, hv1⟩ := hy9.r.at_ hlt
      rw [hv1.1] at hl1
      have HI1 := Lib.hid (IntR.mk hv1 hl1)
      have hka := HK.out.at_ (show j < rs.length by rw [HML.out]; exact hlt)
      have hkb := hka.keyV_bd
      have HFJ : Hid (f j = keyV vs (rV rs j) us) := Lib.hid (by rw [← hf.out]; rfl)
      generalize rA rs j = x at *
      generalize rH rs j = y at *
      generalize rV rs j = xs at *
      obtain ⟨kv, hkv⟩ : ∃ kv, Hid (keyV vs xs us = kv) := ⟨_, Lib.hid rfl⟩
      rw [hkv.out] at hkb HFJ
      have bk := below_new wr (.cells #[.int .i64 x, .int .i64 y, .slice V lv cv] 79)
      have XN := Lib.hid (box_new wr #[.int .i64 x, .int .i64 y, .slice V lv cv] 79)
      have n0 := box_cell XN.out 0 _ rfl; have n1 := box_cell XN.out 1 _ rfl; have n2 := box_cell XN.out 2 _ rfl
      have ln := lt_of_block XN.out
      have HI1b := Lib.hid (HI1.out.below bk)
      have HSb := Lib.hid (HS.out.below bk)
      have HBb := Lib.hid (HB.out.trans (bk.mono (Nat.le_trans hgw hsz)))
      have HXb := Lib.hid (HX.out.below (HBb.out.mono (Nat.le_of_eq hgb.out)))
      have HUb := Lib.hid (HU.out.below (HBb.out.mono (Nat.le_of_eq hgb.out)))
      clear hv1 hy9 bk HI1 HS HB hsz
      go_wp2_with fail
      clear c0 c1 c2 ln
      obtain ⟨gn, hgn⟩ : ∃ gn, Hid (wr.heap.size = gn) := ⟨_, Lib.hid rfl⟩
      rw [hgn.out] at XN n0 n1 n2 ⊢
      generalize wr.alloc (.cells #[.int .i64 x, .int .i64 y, .slice V lv cv] 79) = w4 at *
      refine (keyOf_any A V U n c lv cv l k' x y vs xs us _ HXb.out HI1b.out HUb.out hka).mono ?_
      rintro e w5 ⟨rfl, b5⟩
      rw [hkv.out]
      have s4 := HBb.out.size
      have HS5 := Lib.hid (HSb.out.below b5)
      have HB5 := Lib.hid (HBb.out.trans (b5.mono (Nat.le_trans hgw s4)))
      have s5 := HB5.out.size
      clear n0 n1 n2 XN HI1b HSb HBb HXb HUb b5 hgn s4
      have hkw : (Lit.int .i64 kv).wf = true := WalkArith.wf_i64 (by omega)
      obtain ⟨A1, cA, hlk, hown, hnil, hsh, hback⟩ := HS5.out.g.look (by omega) hkw
      have HO := Lib.hid hown
      have HSH := Lib.hid hsh
      have HBK := Lib.hid hback
      have HN := Lib.hid hnil
      have HGL := Lib.hid (grp_le f kv j)
      have HLE := HS5.out.le
      have HMU := Lib.hid (fun q hq => (HS5.out.top q hq).2)
      clear hown hsh hback hnil
      rcases A1 with _ | a1
      · have hz0 : grp f kv j = [] := HN.out.1 rfl
        have HZ := Lib.hid hz0
        have hK5 := HS5.out.k
        have tok1 : True := trivial
        have heqY := nil_eqY
        rw [hz0, List.length_nil] at hlk
        clear HO HSH HBK HN hz0
        go_wp2_with (first | (at_builtin; have _t := tok1; refine wp_app1 rfl _ _ rfl (gb + 1) K L.length cK L rfl hK5 _ rfl rfl (by omega) (by have := HS5.out.g.lt; omega) ?_; intro K2 c2 w6 hK6 hg6 hl6; have M6 := Lib.hid (HS5.out.app hg6 hl6 hK6); have HK6 := Lib.hid hK6; have HG6 := Lib.hid hg6; have HB6 := Lib.hid (HB5.out.grown hg6 (Nat.le_trans hgw s5) (fun q hq => by have := (HS5.out.top q hq).1; omega)); have hT6 := Lib.hid (fun q (hq : rowOf K2 = some q) => (HK6.out.row_ge q hq).2); obtain ⟨A2, c3, hlk2, hown2, hnil2, hsh2, hback2⟩ := M6.out.look (by omega) hkw; have HO2 := Lib.hid hown2; have HSH2 := Lib.hid hsh2; have HBK2 := Lib.hid hback2; clear hown2 hnil2 hsh2 hback2 hK6 hg6 hl6 hlk tok1) | (at_builtin; refine wp_app1 rfl _ _ rfl (gb + 1) A2 _ c3 _ rfl HO2.out _ rfl rfl (by have := HGL.out; omega) (by have := M6.out.lt; omega) ?_; intro A4 c4 w7 ho7 hg7 hl7; obtain ⟨w8, hmu, hM8, hg8⟩ := HBK2.out HFJ.out hT6.out w7 A4 c4 hg7 ho7 hl7; have S8 : Hid (KS w8 gb f (j + 1) K2 c2 (L ++ [kv])) := Lib.hid (KS.next (A := A2) (by rw [List.length_append]; exact HK6.out) hM8 hg7 HSH2.out hg8 (by have h9 := nd_next HS5.out.nd HS5.out.mem (by rw [HFJ.out]; exact HZ.out); rw [HFJ.out] at h9; exact h9) (by have h9 := mem_next2 HS5.out.mem; rw [HFJ.out] at h9; exact h9) (by rw [List.length_append]; simp; exact HLE)); have B8 := Lib.hid ((HB6.out.grown hg7 (Nat.le_trans hgw HB6.out.size) (fun q hq => by have := (HO2.out.row_ge q hq).1; omega)).grown hg8 (Nat.le_trans hgw (Nat.le_trans HB6.out.size hg7.size)) (fun q hq => by injection hq with hq; omega)); clear ho7 hg7 hl7 hM8 hg8) | go_in)
        (try clear hlk2); (try clear hmu); clear heqY
        clear HO2 HSH2 HBK2 M6 HK6 HG6 HB6 HS5 hK5 HMU
        go_roundw
        case rel => exact ⟨j + 1, K2, c2, L ++ [kv], by omega, by go_num, by simp, S8, B8⟩
        case measure => simp [intOf]; omega
      · have HZ : Hid (grp f kv j ≠ []) := Lib.hid (fun e => by have := HN.out.2 e; cases this)
        clear HN
        have heqN := nil_eqN
        go_wp2_with (first | (at_builtin; refine wp_app1 rfl _ _ rfl (gb + 1) (some a1) _ cA _ rfl HO.out _ rfl rfl (by have := HGL.out; omega) (by have := HS5.out.g.lt; omega) ?_; intro A4 c4 w7 ho7 hg7 hl7; obtain ⟨w8, hmu, hM8, hg8⟩ := HBK.out HFJ.out HMU.out w7 A4 c4 hg7 ho7 hl7; have S8 : Hid (KS w8 gb f (j + 1) K cK L) := Lib.hid (KS.next (A := some a1) HS5.out.k hM8 hg7 HSH.out hg8 HS5.out.nd (mem_next HS5.out.mem (by rw [HFJ.out]; exact HZ.out)) (by omega)); have B8 := Lib.hid ((HB5.out.grown hg7 (Nat.le_trans hgw s5) (fun q hq => by have := (HO.out.row_ge q hq).1; omega)).grown hg8 (Nat.le_trans hgw (Nat.le_trans s5 hg7.size)) (fun q hq => by injection hq with hq; omega)); clear ho7 hg7 hl7 hM8 hg8) | go_in)
        (try clear hlk); (try clear hmu); clear heqN
        clear HO HSH HBK HS5 HMU
        go_roundw
        case rel => exact ⟨j + 1, K, cK, L, by omega, by go_num, rfl, S8, B8⟩
        case measure => simp [intOf]; omega
    case neg =>
      obtain rfl : j = m := by omega
      have hLE := HS.out.le
      have hsz := HB.out.size
      go_wp2_with fail
      refine (sortInts_any (gb + 1) K L.length cK L wr HS.out.k (by omega)).mono ?_
      rintro e ws ⟨rfl, L2, hp, ho2, hg2⟩
      have M2 := Lib.hid ((HS.out.g.kept hg2 (fun e => by have := (HS.out.top gb e.symm).1; omega) (fun q hq => hq)).reno (No' := fun q => ws.heap.size ≤ q) (fun q hq => .inr hq))
      have B2 := Lib.hid (HB.out.grown hg2 (Nat.le_trans hgw hsz) (fun q hq => by have := (HS.out.top q hq).1; omega))
      have HP := Lib.hid hp
      have hl2 : L2.length = L.length := hp.length_eq
      rw [← hl2] at ho2
      have HO2 := Lib.hid ho2
      have HW2 : Hid (∀ t, t < L2.length → (Lit.int .i64 (L2[t]?.getD 0)).wf = true) := Lib.hid (fun t ht => by
        have h1 : L2[t]?.getD 0 ∈ L2 := by rw [List.getElem?_eq_getElem ht]; exact List.getElem_mem ht
        obtain ⟨i, hi, e⟩ := grp_some.1 ((HS.out.mem _).1 (hp.mem_iff.1 h1))
        rw [← e, ← hf.out]
        have h2 := (HK.out.at_ (show i < rs.length by rw [HML.out]; exact hi)).keyV_bd
        exact WalkArith.wf_i64 (by unfold kyF; omega))
      have HF1 : Hid (L2.Nodup ∧ L2.length ≤ 40 ∧ ∀ k, k ∈ L2 ↔ ∃ i, i < j ∧ f i = k) := Lib.hid ⟨hp.nodup_iff.2 HS.out.nd, by omega, fun k => by rw [hp.mem_iff, HS.out.mem, grp_some]⟩
      have hL40 : L2.length ≤ 40 := by omega
      rw [← hl2]
      clear hp ho2 hg2 HS HB hsz HP hl2 hLE
      obtain ⟨gs, hgs⟩ : ∃ gs, Hid (ws.heap.size = gs) := ⟨_, Lib.hid rfl⟩
      have B20 := Lib.hid (Below.refl gs ws)
      rw [hgs.out] at M2
      have hsg : gb ≤ gs := by have := B2.out.size; have := hgs.out; omega
      have R0 : Hid (ws.ownsRow gs 26 1 (.slice none 0 0) 0 []) := Lib.hid (World.ownsRow_nil _ _ _ _)
      have G0 : Hid (GRows ws gs gb f j L2 0 []) := Lib.hid (fun q hq => absurd hq (by omega))
      go_wp2
      go_loopw [12, 48] (fun a i wr => ∃ (t : Nat) (D : Option Addr) (cD : Nat) (ys : List Value), t ≤ L2.length ∧ i = .int .i64 t ∧ a = .slice D t cD ∧ Hid (wr.ownsRow gs 26 1 (.slice D t cD) t ys) ∧ Hid (GRows wr gs gb f j L2 t ys) ∧ Hid (Below gs ws wr)) (fun _ i _ => L2.length - (intOf i).toNat)
      case atStart => exact ⟨0, none, 0, [], Nat.zero_le _, rfl, rfl, R0, G0, B20⟩
      case round =>
        clear R0 G0 B20
        obtain ⟨t, D, cD, ys, ht, rfl, rfl, HR, HG, HB⟩ := hrel
        by_cases hlt : t < L2.length
        case pos =>
          have b9 : Below ws.heap.size ws wr := HB.out.mono (Nat.le_of_eq hgs.out)
          obtain ⟨gk, rfl, _, _, k0, _⟩ := (HO2.out.below b9).at_ hlt
          have M9 := M2.out.below b9
          obtain ⟨V, cc, hlk, hown, _, hsh, _⟩ := M9.look (by omega) (HW2.out t hlt)
          have hyl : ys.length = t := by have := HR.out.1; omega
          have hr9 := HR.out
          have hgz : gs ≤ wr.heap.size := by have := HB.out.size; have := hgs.out; omega
          have HOV := Lib.hid hown
          have HSV := Lib.hid hsh
          have HGE := Lib.hid (fun q hq => (row_ge hr9 q hq).1)
          have HYL := Lib.hid hyl
          have HKT : Hid (L2[t]?.getD 0 = L2[t]?.getD 0) := Lib.hid rfl
          clear M9 b9 hown hsh hyl
          obtain ⟨kv, hkv⟩ : ∃ kv, Hid (L2[t]?.getD 0 = kv) := ⟨_, Lib.hid rfl⟩
          rw [hkv.out] at hlk k0 HOV
          go_wp2_with (at_builtin; refine wp_appII1 rfl _ _ rfl gs D t cD ys rfl hr9 _ rfl rfl rfl (by omega) hgz ?_; intro D2 cD2 w6 ho6 hg6; have hg7 := grownBy_trans (World.grownBy_alloc wr _ _) hg6; have R6 := Lib.hid ho6; have G6 := Lib.hid (HG.out.next HYL.out hg7 HGE.out (by rw [hkv.out]; exact HOV.out) HSV.out); have B6 := Lib.hid (HB.out.grown hg7 hgz HGE.out); rw [hkv.out] at G6; clear ho6 hg6 hg7)
          clear hlk k0 hr9 HOV HSV HGE HR HG HB
          go_roundw
          case rel => exact ⟨t + 1, D2, cD2, _, by omega, by go_num, rfl, R6, G6, B6⟩
          case measure => simp [intOf]; omega
        case neg =>
          obtain rfl : t = L2.length := by omega
          have hb9 := B2.out.trans (HB.out.mono hsg)
          have hb8 := hb9.mono (Nat.le_of_eq hgb.out)
          go_wp2
          go_ret
          exact ⟨D, cD, L2, rfl, HF1.out.1, hL40, HF1.out.2.2, HG.out.read HR.out, hb8⟩
end Go.Proofs.YtahbcnclhohnaaaGreat
