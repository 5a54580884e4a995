/- IsSwapPlan of the program; printed by gfb.py. -/
import Derived.Test.YtahbcnclhohnaaaGreatFsQ
import Derived.Test.YtahbcnclhohnaaaGreatFsA
import Derived.Test.YtahbcnclhohnaaaGreatIwA
import Derived.Deep.RegionHeld3
import Derived.Deep.RegionWith
namespace Go.Proofs.YtahbcnclhohnaaaGreat
open Go.RowKit

theorem wpAnyH_takeD {P : Program} {ops : Array Oper} {Q : Exit → Act → World → Prop} {md : Region.Mode} {S : World → Prop} {i d : Nat} {oi : Oper} {v : Value} {fuel : Nat} {listed : Array Bool} {a : Act} {w : World} (hi : ops[i]? = some oi) (hd : oi.dst = some d)
    (hs : Region.noSelect ops = true) (hf : Region.free md ops listed i = true) (hr : (Region.ready md ops listed).contains i = true)
    (hQ : ∀ c a w, Q (.panic c) (a.put (some d) v) w → Q (.panic c) a w) (hy : YieldsIf P ops S oi v a) (hS : S w)
    (h : wpAnyH P md ops Q S fuel (listed.setIfInBounds i true) (a.put (some d) v) w) : wpAnyH P md ops Q S (fuel + 1) listed a w :=
  wpAnyH_take hi hs hf hr (by rw [hd]; exact hQ) hy hS (by rw [hd]; exact h)

/-- A round of both: what it finds. -/
theorem isPl_no {vs : List (ByteArray × Int)} {rs : List RecD} {us : List Int} {R : List (List Int)} {j : Nat} (hj : j < R.length) (h : pairB (R[j]?.getD []) rs.length = false ∨ rowP vs rs us R j = false) : isPl vs rs us R = false := by
  unfold isPl
  rcases h with h | h
  · rw [pairsB_no hj h]; rfl
  · rw [allTo_no hj h, Bool.and_false]
theorem isPl_yes {vs : List (ByteArray × Int)} {rs : List RecD} {us : List Int} {R : List (List Int)} (hl : R.length ≤ 20) (h : ∀ j, j < R.length → pairB (R[j]?.getD []) rs.length = true ∧ rowP vs rs us R j = true) : isPl vs rs us R = true := by
  unfold isPl
  rw [pairsB_end fun k hk => (h k hk).1, decide_eq_true hl, allTo_yes fun k hk => (h k hk).2]; rfl
theorem isPl_long {vs : List (ByteArray × Int)} {rs : List RecD} {us : List Int} {R : List (List Int)} (hl : 20 < R.length) : isPl vs rs us R = false := by
  unfold isPl pairsB
  rw [decide_eq_false (show ¬ R.length ≤ 20 by omega), Bool.and_false, Bool.false_and]
theorem swpB_can {vs : List (ByteArray × Int)} {us : List Int} {rs : List RecD} {i k : Nat} : swpB (rA rs i) (keyV vs (rV rs i) us) (rA rs k) (keyV vs (rV rs k) us) = canB vs us rs i k := rfl

set_option maxRecDepth 100000 in
set_option maxHeartbeats 4000000 in
theorem implIsSwapPlan_any (A B U P : Option Addr) (n c m d l k' cp : Nat) (vs : List (ByteArray × Int)) (rs : List RecD) (us : List Int) (R : List (List Int)) (w : World) (hx : SchR w A n c vs) (hy : DatR w B m rs) (hu : IntR w U l us) (hr : IntsS w P R.length (fun t => R[t]?.getD [])) (hl : R.length ≤ 1099511627776) (hrl : ∀ t, t < R.length → (R[t]?.getD []).length ≤ 1099511627776) :
    Calls Tryz.prog 9 #[.slice A n c, .slice B m d, .slice U l k', .slice P R.length cp] w fun e w' => e = .returned (.tuple #[.bool (keyedB vs rs us && isPl vs rs us R), .bool (keyedB vs rs us)]) ∧ Below w.heap.size w w' := by
  have hlen := hx.len
  have hml := hy.len
  cases h0 : keyedB vs rs us
  · have H0 := Lib.hid h0
    clear h0 hlen hml
    go_enter Tryz.func9, Tryz.ntmps9
    go_wp2_with fail
    refine (areKeyed_any _ _ _ n _ m _ l _ vs rs us _ hx hy hu).mono ?_
    rintro e w1 ⟨rfl, b1⟩
    rw [H0.out]
    have B1 := Lib.hid b1
    clear b1 hx hy hu hr hrl
    go_wp2
    go_ret2
    exact ⟨rfl, B1.out⟩
  have H0 := Lib.hid h0
  have hk := keyed_all hlen h0
  have hm40 : m ≤ 40 := by have := hk.forty; rw [hml] at this; exact this
  have HK := Lib.hid hk
  rw [Bool.true_and]
  by_cases h20 : 20 < R.length
  · have hd : decide ((20 : Int) < (R.length : Int)) = true := decide_eq_true (by omega)
    rw [isPl_long h20]
    clear h0 hlen hml hk hm40 HK h20
    go_enter Tryz.func9, Tryz.ntmps9
    go_wp2_with fail
    refine (areKeyed_any _ _ _ n _ m _ l _ vs rs us _ hx hy hu).mono ?_
    rintro e w1 ⟨rfl, b1⟩
    rw [H0.out]
    have B1 := Lib.hid b1
    clear b1 hx hy hu hr hrl
    go_wp2
    go_ret2
    exact ⟨rfl, B1.out⟩
  have hd : decide ((20 : Int) < (R.length : Int)) = false := decide_eq_false (by omega)
  have HX := Lib.hid hx
  have HY := Lib.hid hy
  have HU := Lib.hid hu
  have HR := Lib.hid hr
  have HL := Lib.hid hrl
  have HML := Lib.hid hml
  have HN := Lib.hid (fun j (hj : j < R.length) h => isPl_no (vs := vs) (rs := rs) (us := us) (R := R) hj h)
  have HE := Lib.hid (fun h => isPl_yes (vs := vs) (rs := rs) (us := us) (R := R) (by omega) h)
  generalize isPl vs rs us R = PB at *
  clear h0 hlen hml hk h20 hrl hr
  go_enter Tryz.func9, Tryz.ntmps9
  go_wp2_with fail
  refine (areKeyed_any _ _ _ n _ m _ l _ vs rs us _ hx hy hu).mono ?_
  rintro e w1 ⟨rfl, b1⟩
  rw [H0.out]
  have X1 := Lib.hid (box_new w1 (usedA []) 64)
  have B1 := Lib.hid (b1.trans ((below_new w1 (.cells (usedA []) 64)).mono b1.size))
  have s1 := b1.size
  clear b1 hx hy hu H0
  have HC0 : Hid (usedA [] = #[.bool false, .bool false, .bool false, .bool false, .bool false, .bool false, .bool false, .bool false, .bool false, .bool false, .bool false, .bool false, .bool false, .bool false, .bool false, .bool false, .bool false, .bool false, .bool false, .bool false, .bool false, .bool false, .bool false, .bool false, .bool false, .bool false, .bool false, .bool false, .bool false, .bool false, .bool false, .bool false, .bool false, .bool false, .bool false, .bool false, .bool false, .bool false, .bool false, .bool false]) := Lib.hid rfl
  go_wp2_with fail
  rw [← HC0.out]
  clear HC0
  obtain ⟨gb, hgb⟩ : ∃ gb, Hid (w1.heap.size = gb) := ⟨_, Lib.hid rfl⟩
  rw [hgb.out] at X1 ⊢
  have hgw : w.heap.size ≤ gb := by rw [← hgb.out]; exact s1
  generalize w1.alloc (.cells (usedA []) 64) = w2 at *
  clear hgb s1
  go_loopw [23] (fun i wr => ∃ (j : Nat), j ≤ R.length ∧ i = .int .i64 j ∧ Hid (∀ t, t < j → pairB (R[t]?.getD []) rs.length = true ∧ rowP vs rs us R t = true) ∧ Hid (wr.heap[gb]? = some (.cells (usedA (flI R j)) 64 (0, 0))) ∧ Below w.heap.size w wr) (fun i _ => R.length - (intOf i).toNat)
  case atStart => exact ⟨0, Nat.zero_le _, rfl, Lib.hid (fun t h => absurd h (by omega)), X1, B1.out⟩
  case round =>
    clear X1 B1
    obtain ⟨j, hj, rfl, HP, HB, hbw⟩ := hrel
    by_cases hlt : j < R.length
    case pos =>
      obtain ⟨ad, rfl, V, cc, q5w, hVw⟩ := HR.out.at_ hlt
      have q5 := (hbw.cell (block_lt_of_cell q5w)).trans q5w
      have hV := hVw.below hbw
      have HNj := Lib.hid (HN.out j hlt)
      have HYj : Hid (pairB (R[j]?.getD []) rs.length = true → rowP vs rs us R j = true → ∀ t, t < j + 1 → pairB (R[t]?.getD []) rs.length = true ∧ rowP vs rs us R t = true) := Lib.hid (fun h h' t ht => by
        rcases Nat.lt_or_ge t j with h1 | h1
        · exact HP.out t h1
        · obtain rfl : t = j := by omega
          exact ⟨h, h'⟩)
      have hrk := HL.out j hlt
      have HFL : Hid (flI R (j + 1) = flI R j ++ (R[j]?.getD [])) := Lib.hid rfl
      have HRP : Hid (∀ a b : Nat, R[j]?.getD [] = [(a : Int), (b : Int)] → rowP vs rs us R j = (canB vs us rs a b && (!hasB (flI R j) a && !hasB (flI R j) b))) := Lib.hid (fun a b h => by have h9 := pr_row h; unfold rowP; rw [h9.1, h9.2])
      rw [HML.out] at HNj HYj
      replace hV : Ints wr V (R[j]?.getD []).length (R[j]?.getD []) := hV
      replace hVw : Ints w V (R[j]?.getD []).length (R[j]?.getD []) := hVw
      clear q5w
      replace q5 : wr.cell? (ad.add j) = some (.slice V (R[j]?.getD []).length cc) := q5
      generalize hrr : R[j]?.getD [] = r at *
      have HRR := Lib.hid hrr
      generalize rowP vs rs us R j = RP at *
      generalize flI R j = fl at *
      have HV := Lib.hid hV
      have HVw := Lib.hid hVw
      clear hV hVw hrr HN HE HP
      go_wp2_with fail
      clear q5
      cases hp : pairB r m
      case false =>
        obtain rfl : PB = false := HNj.out (.inl hp)
        skip
        have HPF := Lib.hid hp
        clear HNj HYj HRP hp HB
        go_quiet ((go_at_call 36; exact Calls.quiet_of ((isPair_any V cc m r _ (by exact HV.out) hrk).mono fun e w' h => ⟨by rw [h.1, HPF.out], h.2⟩)))
        go_wp2
        go_ret2
        exact ⟨rfl, below_drewN hbw _⟩
      case true =>
        obtain ⟨a, b, rfl, hab, hbm⟩ := pairB_of hp
        have HPT := Lib.hid hp
        have hRP := HRP.out a b rfl
        obtain ⟨ad6, rfl, p0⟩ := HV.out.at_ (show 0 < [(a : Int), (b : Int)].length by simp)
        obtain ⟨ad6', e6, p1⟩ := HV.out.at_ (show 1 < [(a : Int), (b : Int)].length by simp)
        simp only [Option.some.injEq] at e6
        subst e6
        have hn6 : ad6.block < w.heap.size := by
          obtain ⟨ad7, e7, p7⟩ := HVw.out.at_ (show 0 < [(a : Int), (b : Int)].length by simp)
          simp only [Option.some.injEq] at e7
          subst e7
          simpa [Addr.add] using block_lt_of_cell p7
        have p00 : wr.cell? ad6 = some (.int .i64 a) := by have := p0; simpa [Addr.add] using this
        have p11 : wr.cell? { block := ad6.block, off := ad6.off + 1, spot := none } = some (.int .i64 b) := by have := p1; simpa [Addr.add] using this
        have hka := HK.out.at_ (show a < rs.length by rw [HML.out]; omega)
        have hkb := HK.out.at_ (show b < rs.length by rw [HML.out]; omega)
        have hy9 := HY.out.below hbw
        have hl1 := hy9.s a (by omega)
        have hl2 := hy9.s b (by omega)
        obtain ⟨adr, hBe, c0, c1, V1, lv1, cv1, c2, hv⟩ := hy9.r.at_ (show a < m by omega)
        obtain ⟨adr', hBe', d0, d1, V2, lv2, cv2, d2, hv2⟩ := hy9.r.at_ hbm
        subst hBe
        simp only [Option.some.injEq] at hBe'
        subst hBe'
        rw [hv.1] at hl1
        rw [hv2.1] at hl2
        have HV1 := Lib.hid (IntR.mk hv hl1)
        have HV2 := Lib.hid (IntR.mk hv2 hl2)
        have ua := box_cell HB.out a _ (usedA_at (L := fl) (show a < 40 by omega))
        have ub := box_cell HB.out b _ (usedA_at (L := fl) (show b < 40 by omega))
        have a0 : (0 : Int) ≤ (a : Int) := by omega
        have b0 : (0 : Int) ≤ (b : Int) := by omega
        have am : (a : Int) < (m : Int) := by omega
        have bm : (b : Int) < (m : Int) := by omega
        have a40 : (a : Int) < 40 := by omega
        have b40 : (b : Int) < 40 := by omega
        have hCS : swpB (rA rs a) (keyV vs (rV rs a) us) (rA rs b) (keyV vs (rV rs b) us) = canB vs us rs a b := rfl
        generalize rA rs a = x at *
        generalize rA rs b = x2 at *
        generalize rH rs a = y at *
        generalize rH rs b = y2 at *
        generalize rV rs a = xs at *
        generalize rV rs b = xs2 at *
        clear hv hv2 hy9 p0 p1 HRP hrk hp
        cases hc : canB vs us rs a b
        case false =>
          have HCS := Lib.hid (hCS.trans hc)
          obtain rfl : PB = false := HNj.out (.inr (by rw [hRP, hc]; simp))
          clear HNj HYj hRP hc hCS HFL HRR HB
          refine wp_region_held_drew (S := fun w' => w'.cell? ad6 = some (.int .i64 a) ∧ w'.cell? { block := ad6.block, off := ad6.off + 1, spot := none } = some (.int .i64 b) ∧ w'.cell? (adr.add (a * 3)) = some (.int .i64 x) ∧ w'.cell? ⟨(adr.add (a * 3)).block, (adr.add (a * 3)).off + 1, none⟩ = some (.int .i64 y) ∧ w'.cell? ⟨(adr.add (a * 3)).block, (adr.add (a * 3)).off + 2, none⟩ = some (.slice V1 lv1 cv1) ∧ w'.cell? (adr.add (b * 3)) = some (.int .i64 x2) ∧ w'.cell? ⟨(adr.add (b * 3)).block, (adr.add (b * 3)).off + 1, none⟩ = some (.int .i64 y2) ∧ w'.cell? ⟨(adr.add (b * 3)).block, (adr.add (b * 3)).off + 2, none⟩ = some (.slice V2 lv2 cv2) ∧ w'.cell? ⟨gb, a, none⟩ = some (.bool (hasB fl (a : Int))) ∧ w'.cell? ⟨gb, b, none⟩ = some (.bool (hasB fl (b : Int)))) (by kernel_rfl) (by exact ⟨p00, p11, c0, c1, c2, d0, d1, d2, ua, ub⟩) (fun hHeld => ?_)
          refine wpAnyH_takeD (i := 0) (d := 27) (v := ?_) rfl (by kernel_rfl) (by kernel_rfl) (by kernel_rfl) (by kernel_rfl) (fun _ _ _ h => h) (Or.inl ⟨by rfl, ?_⟩) (by assumption) ?_
          rotate_left
          · (intro w hSw; (try dsimp only at hSw); go_simp; try with_reducible rfl)
          simp only [Act.put, List.setIfInBounds_toArray, List.set_cons_zero, List.set_cons_succ]
          refine wpAnyH_takeD (i := 1) (d := 28) (v := ?_) rfl (by kernel_rfl) (by kernel_rfl) (by kernel_rfl) (by kernel_rfl) (fun _ _ _ h => h) (Or.inl ⟨by rfl, ?_⟩) (by assumption) ?_
          rotate_left
          · (intro w hSw; (try dsimp only at hSw); go_simp; try with_reducible rfl)
          simp only [Act.put, List.setIfInBounds_toArray, List.set_cons_zero, List.set_cons_succ]
          refine wpAnyH_takeD (i := 2) (d := 29) (v := ?_) rfl (by kernel_rfl) (by kernel_rfl) (by kernel_rfl) (by kernel_rfl) (fun _ _ _ h => h) (Or.inl ⟨by rfl, ?_⟩) (by assumption) ?_
          rotate_left
          · (intro w hSw; (try dsimp only at hSw); go_simp; try with_reducible rfl)
          simp only [Act.put, List.setIfInBounds_toArray, List.set_cons_zero, List.set_cons_succ]
          refine wpAnyH_ready (rs := [3]) (by kernel_rfl) (by simp) ?_
          refine AllReadyH.cons rfl (fun K hK => ?_) AllReadyH.nil
          go_simp
          (go_at_call 36; refine (isPair_any (some ad6) cc m [(a : Int), (b : Int)] _ (by exact HV.out) (by simp)).mono ?_; rintro e w4 ⟨rfl, mm, rfl⟩; rw [HPT.out])
          go_wp2_with fail
          refine hK.out _ _ ?_ (fun hHeld => ?_)
          · exact ⟨p00, p11, c0, c1, c2, d0, d1, d2, ua, ub⟩
          clear hK K
          try simp only [Act.put, List.setIfInBounds_toArray, List.set_cons_zero, List.set_cons_succ]
          refine wpAnyH_takeD (i := 4) (d := 31) (v := ?_) rfl (by kernel_rfl) (by kernel_rfl) (by kernel_rfl) (by kernel_rfl) (fun _ _ _ h => h) (Or.inl ⟨by rfl, ?_⟩) (by assumption) ?_
          rotate_left
          · (intro w hSw; (try dsimp only at hSw); go_simp; try with_reducible rfl)
          simp only [Act.put, List.setIfInBounds_toArray, List.set_cons_zero, List.set_cons_succ]
          refine wpAnyH_takeD (i := 5) (d := 32) (v := ?_) rfl (by kernel_rfl) (by kernel_rfl) (by kernel_rfl) (by kernel_rfl) (fun _ _ _ h => h) (Or.inl ⟨by rfl, ?_⟩) (by assumption) ?_
          rotate_left
          · (intro w hSw; (try dsimp only at hSw); go_simp; try with_reducible rfl)
          simp only [Act.put, List.setIfInBounds_toArray, List.set_cons_zero, List.set_cons_succ]
          refine wpAnyH_takeD (i := 6) (d := 33) (v := ?_) rfl (by kernel_rfl) (by kernel_rfl) (by kernel_rfl) (by kernel_rfl) (fun _ _ _ h => h) (Or.inl ⟨by rfl, ?_⟩) (by assumption) ?_
          rotate_left
          · (intro w hSw; (try dsimp only at hSw); go_simp; try with_reducible rfl)
          simp only [Act.put, List.setIfInBounds_toArray, List.set_cons_zero, List.set_cons_succ]
          refine wpAnyH_takeD (i := 7) (d := 34) (v := ?_) rfl (by kernel_rfl) (by kernel_rfl) (by kernel_rfl) (by kernel_rfl) (fun _ _ _ h => h) (Or.inl ⟨by rfl, ?_⟩) (by assumption) ?_
          rotate_left
          · (intro w hSw; (try dsimp only at hSw); go_simp; try with_reducible rfl)
          simp only [Act.put, List.setIfInBounds_toArray, List.set_cons_zero, List.set_cons_succ]
          refine wpAnyH_takeD (i := 8) (d := 35) (v := ?_) rfl (by kernel_rfl) (by kernel_rfl) (by kernel_rfl) (by kernel_rfl) (fun _ _ _ h => h) (Or.inl ⟨by rfl, ?_⟩) (by assumption) ?_
          rotate_left
          · (intro w hSw; (try dsimp only at hSw); go_simp; try with_reducible rfl)
          simp only [Act.put, List.setIfInBounds_toArray, List.set_cons_zero, List.set_cons_succ]
          refine wpAnyH_takeD (i := 9) (d := 36) (v := ?_) rfl (by kernel_rfl) (by kernel_rfl) (by kernel_rfl) (by kernel_rfl) (fun _ _ _ h => h) (Or.inl ⟨by rfl, ?_⟩) (by assumption) ?_
          rotate_left
          · (intro w hSw; (try dsimp only at hSw); go_simp; try with_reducible rfl)
          simp only [Act.put, List.setIfInBounds_toArray, List.set_cons_zero, List.set_cons_succ]
          refine wpAnyH_takeD (i := 10) (d := 37) (v := ?_) rfl (by kernel_rfl) (by kernel_rfl) (by kernel_rfl) (by kernel_rfl) (fun _ _ _ h => h) (Or.inl ⟨by rfl, ?_⟩) (by assumption) ?_
          rotate_left
          · (intro w hSw; (try dsimp only at hSw); go_simp; try with_reducible rfl)
          simp only [Act.put, List.setIfInBounds_toArray, List.set_cons_zero, List.set_cons_succ]
          refine wpAnyH_takeD (i := 11) (d := 38) (v := ?_) rfl (by kernel_rfl) (by kernel_rfl) (by kernel_rfl) (by kernel_rfl) (fun _ _ _ h => h) (Or.inl ⟨by rfl, ?_⟩) (by assumption) ?_
          rotate_left
          · (intro w hSw; (try dsimp only at hSw); go_simp; try with_reducible rfl)
          simp only [Act.put, List.setIfInBounds_toArray, List.set_cons_zero, List.set_cons_succ]
          refine wpAnyH_takeD (i := 12) (d := 39) (v := ?_) rfl (by kernel_rfl) (by kernel_rfl) (by kernel_rfl) (by kernel_rfl) (fun _ _ _ h => h) (Or.inl ⟨by rfl, ?_⟩) (by assumption) ?_
          rotate_left
          · (intro w hSw; (try dsimp only at hSw); go_simp; try with_reducible rfl)
          simp only [Act.put, List.setIfInBounds_toArray, List.set_cons_zero, List.set_cons_succ]
          refine wpAnyH_takeD (i := 13) (d := 40) (v := ?_) rfl (by kernel_rfl) (by kernel_rfl) (by kernel_rfl) (by kernel_rfl) (fun _ _ _ h => h) (Or.inl ⟨by rfl, ?_⟩) (by assumption) ?_
          rotate_left
          · (intro w hSw; (try dsimp only at hSw); go_simp; try with_reducible rfl)
          simp only [Act.put, List.setIfInBounds_toArray, List.set_cons_zero, List.set_cons_succ]
          refine wpAnyH_takeD (i := 14) (d := 41) (v := ?_) rfl (by kernel_rfl) (by kernel_rfl) (by kernel_rfl) (by kernel_rfl) (fun _ _ _ h => h) (Or.inl ⟨by rfl, ?_⟩) (by assumption) ?_
          rotate_left
          · (intro w hSw; (try dsimp only at hSw); go_simp; try with_reducible rfl)
          simp only [Act.put, List.setIfInBounds_toArray, List.set_cons_zero, List.set_cons_succ]
          refine wpAnyH_takeD (i := 15) (d := 42) (v := ?_) rfl (by kernel_rfl) (by kernel_rfl) (by kernel_rfl) (by kernel_rfl) (fun _ _ _ h => h) (Or.inl ⟨by rfl, ?_⟩) (by assumption) ?_
          rotate_left
          · (intro w hSw; (try dsimp only at hSw); go_simp; try with_reducible rfl)
          simp only [Act.put, List.setIfInBounds_toArray, List.set_cons_zero, List.set_cons_succ]
          refine wpAnyH_takeD (i := 16) (d := 43) (v := ?_) rfl (by kernel_rfl) (by kernel_rfl) (by kernel_rfl) (by kernel_rfl) (fun _ _ _ h => h) (Or.inl ⟨by rfl, ?_⟩) (by assumption) ?_
          rotate_left
          · (intro w hSw; (try dsimp only at hSw); go_simp; try with_reducible rfl)
          simp only [Act.put, List.setIfInBounds_toArray, List.set_cons_zero, List.set_cons_succ]
          refine wpAnyH_takeD (i := 17) (d := 44) (v := ?_) rfl (by kernel_rfl) (by kernel_rfl) (by kernel_rfl) (by kernel_rfl) (fun _ _ _ h => h) (Or.inl ⟨by rfl, ?_⟩) (by assumption) ?_
          rotate_left
          · (intro w hSw; (try dsimp only at hSw); go_simp; try with_reducible rfl)
          simp only [Act.put, List.setIfInBounds_toArray, List.set_cons_zero, List.set_cons_succ]
          refine wpAnyH_takeD (i := 18) (d := 45) (v := ?_) rfl (by kernel_rfl) (by kernel_rfl) (by kernel_rfl) (by kernel_rfl) (fun _ _ _ h => h) (Or.inl ⟨by rfl, ?_⟩) (by assumption) ?_
          rotate_left
          · (intro w hSw; (try dsimp only at hSw); go_simp; try with_reducible rfl)
          simp only [Act.put, List.setIfInBounds_toArray, List.set_cons_zero, List.set_cons_succ]
          refine wpAnyH_takeD (i := 19) (d := 46) (v := ?_) rfl (by kernel_rfl) (by kernel_rfl) (by kernel_rfl) (by kernel_rfl) (fun _ _ _ h => h) (Or.inl ⟨by rfl, ?_⟩) (by assumption) ?_
          rotate_left
          · (intro w hSw; (try dsimp only at hSw); go_simp; try with_reducible rfl)
          simp only [Act.put, List.setIfInBounds_toArray, List.set_cons_zero, List.set_cons_succ]
          refine wpAnyH_ready (rs := [20]) (by kernel_rfl) (by simp) ?_
          refine AllReadyH.cons rfl (fun K hK => ?_) AllReadyH.nil
          go_simp
          (go_at_call 37; refine (canSwap_any _ _ _ _ n _ lv1 _ lv2 _ l _ x y x2 y2 vs xs xs2 us _ (by exact (HX.out.below hbw).below (by first | exact below_drewN (below_drewN (Below.refl _ _) 1) _ | exact below_drewN (Below.refl _ _) _ | exact (below_drewN (Below.refl _ _) _).drew)) (by exact HV1.out.below (by first | exact below_drewN (below_drewN (Below.refl _ _) 1) _ | exact below_drewN (Below.refl _ _) _ | exact (below_drewN (Below.refl _ _) _).drew)) (by exact HV2.out.below (by first | exact below_drewN (below_drewN (Below.refl _ _) 1) _ | exact below_drewN (Below.refl _ _) _ | exact (below_drewN (Below.refl _ _) _).drew)) (by exact (HU.out.below hbw).below (by first | exact below_drewN (below_drewN (Below.refl _ _) 1) _ | exact below_drewN (Below.refl _ _) _ | exact (below_drewN (Below.refl _ _) _).drew)) hka hkb).mono ?_; rintro e w5 ⟨rfl, b5'⟩; rw [HCS.out]; have b5 : Below wr.heap.size wr w5 := Below.trans (by first | exact below_drewN (below_drewN (Below.refl _ _) 1) _ | exact below_drewN (Below.refl _ _) _ | exact (below_drewN (Below.refl _ _) _).drew) b5'; have q5 : w5.cell? ad6 = some (.int .i64 a) ∧ w5.cell? { block := ad6.block, off := ad6.off + 1, spot := none } = some (.int .i64 b) ∧ w5.cell? (adr.add (a * 3)) = some (.int .i64 x) ∧ w5.cell? ⟨(adr.add (a * 3)).block, (adr.add (a * 3)).off + 1, none⟩ = some (.int .i64 y) ∧ w5.cell? ⟨(adr.add (a * 3)).block, (adr.add (a * 3)).off + 2, none⟩ = some (.slice V1 lv1 cv1) ∧ w5.cell? (adr.add (b * 3)) = some (.int .i64 x2) ∧ w5.cell? ⟨(adr.add (b * 3)).block, (adr.add (b * 3)).off + 1, none⟩ = some (.int .i64 y2) ∧ w5.cell? ⟨(adr.add (b * 3)).block, (adr.add (b * 3)).off + 2, none⟩ = some (.slice V2 lv2 cv2) ∧ w5.cell? ⟨gb, a, none⟩ = some (.bool (hasB fl (a : Int))) ∧ w5.cell? ⟨gb, b, none⟩ = some (.bool (hasB fl (b : Int))) := ⟨(b5.cell (block_lt_of_cell p00)).trans p00, (b5.cell (block_lt_of_cell p11)).trans p11, (b5.cell (block_lt_of_cell c0)).trans c0, (b5.cell (block_lt_of_cell c1)).trans c1, (b5.cell (block_lt_of_cell c2)).trans c2, (b5.cell (block_lt_of_cell d0)).trans d0, (b5.cell (block_lt_of_cell d1)).trans d1, (b5.cell (block_lt_of_cell d2)).trans d2, (b5.cell (block_lt_of_cell ua)).trans ua, (b5.cell (block_lt_of_cell ub)).trans ub⟩); obtain ⟨ep00, ep11, ec0, ec1, ec2, ed0, ed1, ed2, eua, eub⟩ := q5
          go_wp2_with fail
          refine hK.out _ _ ?_ (fun hHeld => ?_)
          · exact ⟨ep00, ep11, ec0, ec1, ec2, ed0, ed1, ed2, eua, eub⟩
          clear hK K
          try simp only [Act.put, List.setIfInBounds_toArray, List.set_cons_zero, List.set_cons_succ]
          refine wpAnyH_takeD (i := 21) (d := 48) (v := ?_) rfl (by kernel_rfl) (by kernel_rfl) (by kernel_rfl) (by kernel_rfl) (fun _ _ _ h => h) (Or.inl ⟨by rfl, ?_⟩) (by assumption) ?_
          rotate_left
          · (intro w hSw; (try dsimp only at hSw); go_simp; try with_reducible rfl)
          simp only [Act.put, List.setIfInBounds_toArray, List.set_cons_zero, List.set_cons_succ]
          refine wpAnyH_takeD (i := 22) (d := 49) (v := ?_) rfl (by kernel_rfl) (by kernel_rfl) (by kernel_rfl) (by kernel_rfl) (fun _ _ _ h => h) (Or.inl ⟨by rfl, ?_⟩) (by assumption) ?_
          rotate_left
          · (intro w hSw; (try dsimp only at hSw); go_simp; try with_reducible rfl)
          simp only [Act.put, List.setIfInBounds_toArray, List.set_cons_zero, List.set_cons_succ]
          refine wpAnyH_takeD (i := 23) (d := 50) (v := ?_) rfl (by kernel_rfl) (by kernel_rfl) (by kernel_rfl) (by kernel_rfl) (fun _ _ _ h => h) (Or.inl ⟨by rfl, ?_⟩) (by assumption) ?_
          rotate_left
          · (intro w hSw; (try dsimp only at hSw); go_simp; try with_reducible rfl)
          simp only [Act.put, List.setIfInBounds_toArray, List.set_cons_zero, List.set_cons_succ]
          refine wpAnyH_takeD (i := 24) (d := 51) (v := undef) rfl (by kernel_rfl) (by kernel_rfl) (by kernel_rfl) (by kernel_rfl) (fun _ _ _ h => h) (Or.inr ⟨by rfl, rfl⟩) (by assumption) ?_
          simp only [Act.put, List.setIfInBounds_toArray, List.set_cons_zero, List.set_cons_succ]
          refine wpAnyH_takeD (i := 25) (d := 52) (v := undef) rfl (by kernel_rfl) (by kernel_rfl) (by kernel_rfl) (by kernel_rfl) (fun _ _ _ h => h) (Or.inr ⟨by rfl, rfl⟩) (by assumption) ?_
          simp only [Act.put, List.setIfInBounds_toArray, List.set_cons_zero, List.set_cons_succ]
          refine wpAnyH_takeD (i := 26) (d := 53) (v := undef) rfl (by kernel_rfl) (by kernel_rfl) (by kernel_rfl) (by kernel_rfl) (fun _ _ _ h => h) (Or.inr ⟨by rfl, rfl⟩) (by assumption) ?_
          simp only [Act.put, List.setIfInBounds_toArray, List.set_cons_zero, List.set_cons_succ]
          refine wpAnyH_takeD (i := 27) (d := 54) (v := undef) rfl (by kernel_rfl) (by kernel_rfl) (by kernel_rfl) (by kernel_rfl) (fun _ _ _ h => h) (Or.inr ⟨by rfl, rfl⟩) (by assumption) ?_
          simp only [Act.put, List.setIfInBounds_toArray, List.set_cons_zero, List.set_cons_succ]
          refine wpAnyH_takeD (i := 28) (d := 55) (v := undef) rfl (by kernel_rfl) (by kernel_rfl) (by kernel_rfl) (by kernel_rfl) (fun _ _ _ h => h) (Or.inr ⟨by rfl, rfl⟩) (by assumption) ?_
          simp only [Act.put, List.setIfInBounds_toArray, List.set_cons_zero, List.set_cons_succ]
          refine wpAnyH_takeD (i := 29) (d := 56) (v := ?_) rfl (by kernel_rfl) (by kernel_rfl) (by kernel_rfl) (by kernel_rfl) (fun _ _ _ h => h) (Or.inl ⟨by rfl, ?_⟩) (by assumption) ?_
          rotate_left
          · (intro w hSw; (try dsimp only at hSw); go_simp; try with_reducible rfl)
          simp only [Act.put, List.setIfInBounds_toArray, List.set_cons_zero, List.set_cons_succ]
          refine wpAnyH_takeD (i := 30) (d := 57) (v := ?_) rfl (by kernel_rfl) (by kernel_rfl) (by kernel_rfl) (by kernel_rfl) (fun _ _ _ h => h) (Or.inl ⟨by rfl, ?_⟩) (by assumption) ?_
          rotate_left
          · (intro w hSw; (try dsimp only at hSw); go_simp; try with_reducible rfl)
          simp only [Act.put, List.setIfInBounds_toArray, List.set_cons_zero, List.set_cons_succ]
          refine wpAnyH_takeD (i := 31) (d := 58) (v := undef) rfl (by kernel_rfl) (by kernel_rfl) (by kernel_rfl) (by kernel_rfl) (fun _ _ _ h => h) (Or.inr ⟨by rfl, rfl⟩) (by assumption) ?_
          simp only [Act.put, List.setIfInBounds_toArray, List.set_cons_zero, List.set_cons_succ]
          refine wpAnyH_takeD (i := 32) (d := 59) (v := undef) rfl (by kernel_rfl) (by kernel_rfl) (by kernel_rfl) (by kernel_rfl) (fun _ _ _ h => h) (Or.inr ⟨by rfl, rfl⟩) (by assumption) ?_
          simp only [Act.put, List.setIfInBounds_toArray, List.set_cons_zero, List.set_cons_succ]
          refine wpAnyH_takeD (i := 33) (d := 60) (v := undef) rfl (by kernel_rfl) (by kernel_rfl) (by kernel_rfl) (by kernel_rfl) (fun _ _ _ h => h) (Or.inr ⟨by rfl, rfl⟩) (by assumption) ?_
          simp only [Act.put, List.setIfInBounds_toArray, List.set_cons_zero, List.set_cons_succ]
          refine wpAnyH_takeD (i := 34) (d := 61) (v := undef) rfl (by kernel_rfl) (by kernel_rfl) (by kernel_rfl) (by kernel_rfl) (fun _ _ _ h => h) (Or.inr ⟨by rfl, rfl⟩) (by assumption) ?_
          simp only [Act.put, List.setIfInBounds_toArray, List.set_cons_zero, List.set_cons_succ]
          refine wpAnyH_takeD (i := 35) (d := 62) (v := undef) rfl (by kernel_rfl) (by kernel_rfl) (by kernel_rfl) (by kernel_rfl) (fun _ _ _ h => h) (Or.inr ⟨by rfl, rfl⟩) (by assumption) ?_
          simp only [Act.put, List.setIfInBounds_toArray, List.set_cons_zero, List.set_cons_succ]
          refine wpAnyH_takeD (i := 36) (d := 63) (v := ?_) rfl (by kernel_rfl) (by kernel_rfl) (by kernel_rfl) (by kernel_rfl) (fun _ _ _ h => h) (Or.inl ⟨by rfl, ?_⟩) (by assumption) ?_
          rotate_left
          · (intro w hSw; (try dsimp only at hSw); go_simp; try with_reducible rfl)
          simp only [Act.put, List.setIfInBounds_toArray, List.set_cons_zero, List.set_cons_succ]
          refine wpAnyH_done (by kernel_rfl) ?_ _
          have HF := Lib.hid (hbw.trans (b5.mono hbw.size))
          clear p00 p11 c0 c1 c2 d0 d1 d2 ua ub ep00 ep11 ec0 ec1 ec2 ed0 ed1 ed2 eua eub b5 b5' hbw
          go_wp2
          go_ret2
          exact ⟨rfl, HF.out⟩
        case true =>
          cases hA : hasB fl (a : Int)
          case true =>
            rw [hA] at ua
            have HCS := Lib.hid (hCS.trans hc)
            obtain rfl : PB = false := HNj.out (.inr (by rw [hRP, hc, hA]; simp))
            clear HNj HYj hRP hc hCS HFL HRR HB
            refine wp_region_held_drew (S := fun w' => w'.cell? ad6 = some (.int .i64 a) ∧ w'.cell? { block := ad6.block, off := ad6.off + 1, spot := none } = some (.int .i64 b) ∧ w'.cell? (adr.add (a * 3)) = some (.int .i64 x) ∧ w'.cell? ⟨(adr.add (a * 3)).block, (adr.add (a * 3)).off + 1, none⟩ = some (.int .i64 y) ∧ w'.cell? ⟨(adr.add (a * 3)).block, (adr.add (a * 3)).off + 2, none⟩ = some (.slice V1 lv1 cv1) ∧ w'.cell? (adr.add (b * 3)) = some (.int .i64 x2) ∧ w'.cell? ⟨(adr.add (b * 3)).block, (adr.add (b * 3)).off + 1, none⟩ = some (.int .i64 y2) ∧ w'.cell? ⟨(adr.add (b * 3)).block, (adr.add (b * 3)).off + 2, none⟩ = some (.slice V2 lv2 cv2) ∧ w'.cell? ⟨gb, a, none⟩ = some (.bool true) ∧ w'.cell? ⟨gb, b, none⟩ = some (.bool (hasB fl (b : Int)))) (by kernel_rfl) (by exact ⟨p00, p11, c0, c1, c2, d0, d1, d2, ua, ub⟩) (fun hHeld => ?_)
            refine wpAnyH_takeD (i := 0) (d := 27) (v := ?_) rfl (by kernel_rfl) (by kernel_rfl) (by kernel_rfl) (by kernel_rfl) (fun _ _ _ h => h) (Or.inl ⟨by rfl, ?_⟩) (by assumption) ?_
            rotate_left
            · (intro w hSw; (try dsimp only at hSw); go_simp; try with_reducible rfl)
            simp only [Act.put, List.setIfInBounds_toArray, List.set_cons_zero, List.set_cons_succ]
            refine wpAnyH_takeD (i := 1) (d := 28) (v := ?_) rfl (by kernel_rfl) (by kernel_rfl) (by kernel_rfl) (by kernel_rfl) (fun _ _ _ h => h) (Or.inl ⟨by rfl, ?_⟩) (by assumption) ?_
            rotate_left
            · (intro w hSw; (try dsimp only at hSw); go_simp; try with_reducible rfl)
            simp only [Act.put, List.setIfInBounds_toArray, List.set_cons_zero, List.set_cons_succ]
            refine wpAnyH_takeD (i := 2) (d := 29) (v := ?_) rfl (by kernel_rfl) (by kernel_rfl) (by kernel_rfl) (by kernel_rfl) (fun _ _ _ h => h) (Or.inl ⟨by rfl, ?_⟩) (by assumption) ?_
            rotate_left
            · (intro w hSw; (try dsimp only at hSw); go_simp; try with_reducible rfl)
            simp only [Act.put, List.setIfInBounds_toArray, List.set_cons_zero, List.set_cons_succ]
            refine wpAnyH_ready (rs := [3]) (by kernel_rfl) (by simp) ?_
            refine AllReadyH.cons rfl (fun K hK => ?_) AllReadyH.nil
            go_simp
            (go_at_call 36; refine (isPair_any (some ad6) cc m [(a : Int), (b : Int)] _ (by exact HV.out) (by simp)).mono ?_; rintro e w4 ⟨rfl, mm, rfl⟩; rw [HPT.out])
            go_wp2_with fail
            refine hK.out _ _ ?_ (fun hHeld => ?_)
            · exact ⟨p00, p11, c0, c1, c2, d0, d1, d2, ua, ub⟩
            clear hK K
            try simp only [Act.put, List.setIfInBounds_toArray, List.set_cons_zero, List.set_cons_succ]
            refine wpAnyH_takeD (i := 4) (d := 31) (v := ?_) rfl (by kernel_rfl) (by kernel_rfl) (by kernel_rfl) (by kernel_rfl) (fun _ _ _ h => h) (Or.inl ⟨by rfl, ?_⟩) (by assumption) ?_
            rotate_left
            · (intro w hSw; (try dsimp only at hSw); go_simp; try with_reducible rfl)
            simp only [Act.put, List.setIfInBounds_toArray, List.set_cons_zero, List.set_cons_succ]
            refine wpAnyH_takeD (i := 5) (d := 32) (v := ?_) rfl (by kernel_rfl) (by kernel_rfl) (by kernel_rfl) (by kernel_rfl) (fun _ _ _ h => h) (Or.inl ⟨by rfl, ?_⟩) (by assumption) ?_
            rotate_left
            · (intro w hSw; (try dsimp only at hSw); go_simp; try with_reducible rfl)
            simp only [Act.put, List.setIfInBounds_toArray, List.set_cons_zero, List.set_cons_succ]
            refine wpAnyH_takeD (i := 6) (d := 33) (v := ?_) rfl (by kernel_rfl) (by kernel_rfl) (by kernel_rfl) (by kernel_rfl) (fun _ _ _ h => h) (Or.inl ⟨by rfl, ?_⟩) (by assumption) ?_
            rotate_left
            · (intro w hSw; (try dsimp only at hSw); go_simp; try with_reducible rfl)
            simp only [Act.put, List.setIfInBounds_toArray, List.set_cons_zero, List.set_cons_succ]
            refine wpAnyH_takeD (i := 7) (d := 34) (v := ?_) rfl (by kernel_rfl) (by kernel_rfl) (by kernel_rfl) (by kernel_rfl) (fun _ _ _ h => h) (Or.inl ⟨by rfl, ?_⟩) (by assumption) ?_
            rotate_left
            · (intro w hSw; (try dsimp only at hSw); go_simp; try with_reducible rfl)
            simp only [Act.put, List.setIfInBounds_toArray, List.set_cons_zero, List.set_cons_succ]
            refine wpAnyH_takeD (i := 8) (d := 35) (v := ?_) rfl (by kernel_rfl) (by kernel_rfl) (by kernel_rfl) (by kernel_rfl) (fun _ _ _ h => h) (Or.inl ⟨by rfl, ?_⟩) (by assumption) ?_
            rotate_left
            · (intro w hSw; (try dsimp only at hSw); go_simp; try with_reducible rfl)
            simp only [Act.put, List.setIfInBounds_toArray, List.set_cons_zero, List.set_cons_succ]
            refine wpAnyH_takeD (i := 9) (d := 36) (v := ?_) rfl (by kernel_rfl) (by kernel_rfl) (by kernel_rfl) (by kernel_rfl) (fun _ _ _ h => h) (Or.inl ⟨by rfl, ?_⟩) (by assumption) ?_
            rotate_left
            · (intro w hSw; (try dsimp only at hSw); go_simp; try with_reducible rfl)
            simp only [Act.put, List.setIfInBounds_toArray, List.set_cons_zero, List.set_cons_succ]
            refine wpAnyH_takeD (i := 10) (d := 37) (v := ?_) rfl (by kernel_rfl) (by kernel_rfl) (by kernel_rfl) (by kernel_rfl) (fun _ _ _ h => h) (Or.inl ⟨by rfl, ?_⟩) (by assumption) ?_
            rotate_left
            · (intro w hSw; (try dsimp only at hSw); go_simp; try with_reducible rfl)
            simp only [Act.put, List.setIfInBounds_toArray, List.set_cons_zero, List.set_cons_succ]
            refine wpAnyH_takeD (i := 11) (d := 38) (v := ?_) rfl (by kernel_rfl) (by kernel_rfl) (by kernel_rfl) (by kernel_rfl) (fun _ _ _ h => h) (Or.inl ⟨by rfl, ?_⟩) (by assumption) ?_
            rotate_left
            · (intro w hSw; (try dsimp only at hSw); go_simp; try with_reducible rfl)
            simp only [Act.put, List.setIfInBounds_toArray, List.set_cons_zero, List.set_cons_succ]
            refine wpAnyH_takeD (i := 12) (d := 39) (v := ?_) rfl (by kernel_rfl) (by kernel_rfl) (by kernel_rfl) (by kernel_rfl) (fun _ _ _ h => h) (Or.inl ⟨by rfl, ?_⟩) (by assumption) ?_
            rotate_left
            · (intro w hSw; (try dsimp only at hSw); go_simp; try with_reducible rfl)
            simp only [Act.put, List.setIfInBounds_toArray, List.set_cons_zero, List.set_cons_succ]
            refine wpAnyH_takeD (i := 13) (d := 40) (v := ?_) rfl (by kernel_rfl) (by kernel_rfl) (by kernel_rfl) (by kernel_rfl) (fun _ _ _ h => h) (Or.inl ⟨by rfl, ?_⟩) (by assumption) ?_
            rotate_left
            · (intro w hSw; (try dsimp only at hSw); go_simp; try with_reducible rfl)
            simp only [Act.put, List.setIfInBounds_toArray, List.set_cons_zero, List.set_cons_succ]
            refine wpAnyH_takeD (i := 14) (d := 41) (v := ?_) rfl (by kernel_rfl) (by kernel_rfl) (by kernel_rfl) (by kernel_rfl) (fun _ _ _ h => h) (Or.inl ⟨by rfl, ?_⟩) (by assumption) ?_
            rotate_left
            · (intro w hSw; (try dsimp only at hSw); go_simp; try with_reducible rfl)
            simp only [Act.put, List.setIfInBounds_toArray, List.set_cons_zero, List.set_cons_succ]
            refine wpAnyH_takeD (i := 15) (d := 42) (v := ?_) rfl (by kernel_rfl) (by kernel_rfl) (by kernel_rfl) (by kernel_rfl) (fun _ _ _ h => h) (Or.inl ⟨by rfl, ?_⟩) (by assumption) ?_
            rotate_left
            · (intro w hSw; (try dsimp only at hSw); go_simp; try with_reducible rfl)
            simp only [Act.put, List.setIfInBounds_toArray, List.set_cons_zero, List.set_cons_succ]
            refine wpAnyH_takeD (i := 16) (d := 43) (v := ?_) rfl (by kernel_rfl) (by kernel_rfl) (by kernel_rfl) (by kernel_rfl) (fun _ _ _ h => h) (Or.inl ⟨by rfl, ?_⟩) (by assumption) ?_
            rotate_left
            · (intro w hSw; (try dsimp only at hSw); go_simp; try with_reducible rfl)
            simp only [Act.put, List.setIfInBounds_toArray, List.set_cons_zero, List.set_cons_succ]
            refine wpAnyH_takeD (i := 17) (d := 44) (v := ?_) rfl (by kernel_rfl) (by kernel_rfl) (by kernel_rfl) (by kernel_rfl) (fun _ _ _ h => h) (Or.inl ⟨by rfl, ?_⟩) (by assumption) ?_
            rotate_left
            · (intro w hSw; (try dsimp only at hSw); go_simp; try with_reducible rfl)
            simp only [Act.put, List.setIfInBounds_toArray, List.set_cons_zero, List.set_cons_succ]
            refine wpAnyH_takeD (i := 18) (d := 45) (v := ?_) rfl (by kernel_rfl) (by kernel_rfl) (by kernel_rfl) (by kernel_rfl) (fun _ _ _ h => h) (Or.inl ⟨by rfl, ?_⟩) (by assumption) ?_
            rotate_left
            · (intro w hSw; (try dsimp only at hSw); go_simp; try with_reducible rfl)
            simp only [Act.put, List.setIfInBounds_toArray, List.set_cons_zero, List.set_cons_succ]
            refine wpAnyH_takeD (i := 19) (d := 46) (v := ?_) rfl (by kernel_rfl) (by kernel_rfl) (by kernel_rfl) (by kernel_rfl) (fun _ _ _ h => h) (Or.inl ⟨by rfl, ?_⟩) (by assumption) ?_
            rotate_left
            · (intro w hSw; (try dsimp only at hSw); go_simp; try with_reducible rfl)
            simp only [Act.put, List.setIfInBounds_toArray, List.set_cons_zero, List.set_cons_succ]
            refine wpAnyH_ready (rs := [20]) (by kernel_rfl) (by simp) ?_
            refine AllReadyH.cons rfl (fun K hK => ?_) AllReadyH.nil
            go_simp
            (go_at_call 37; refine (canSwap_any _ _ _ _ n _ lv1 _ lv2 _ l _ x y x2 y2 vs xs xs2 us _ (by exact (HX.out.below hbw).below (by first | exact below_drewN (below_drewN (Below.refl _ _) 1) _ | exact below_drewN (Below.refl _ _) _ | exact (below_drewN (Below.refl _ _) _).drew)) (by exact HV1.out.below (by first | exact below_drewN (below_drewN (Below.refl _ _) 1) _ | exact below_drewN (Below.refl _ _) _ | exact (below_drewN (Below.refl _ _) _).drew)) (by exact HV2.out.below (by first | exact below_drewN (below_drewN (Below.refl _ _) 1) _ | exact below_drewN (Below.refl _ _) _ | exact (below_drewN (Below.refl _ _) _).drew)) (by exact (HU.out.below hbw).below (by first | exact below_drewN (below_drewN (Below.refl _ _) 1) _ | exact below_drewN (Below.refl _ _) _ | exact (below_drewN (Below.refl _ _) _).drew)) hka hkb).mono ?_; rintro e w5 ⟨rfl, b5'⟩; rw [HCS.out]; have b5 : Below wr.heap.size wr w5 := Below.trans (by first | exact below_drewN (below_drewN (Below.refl _ _) 1) _ | exact below_drewN (Below.refl _ _) _ | exact (below_drewN (Below.refl _ _) _).drew) b5'; have q5 : w5.cell? ad6 = some (.int .i64 a) ∧ w5.cell? { block := ad6.block, off := ad6.off + 1, spot := none } = some (.int .i64 b) ∧ w5.cell? (adr.add (a * 3)) = some (.int .i64 x) ∧ w5.cell? ⟨(adr.add (a * 3)).block, (adr.add (a * 3)).off + 1, none⟩ = some (.int .i64 y) ∧ w5.cell? ⟨(adr.add (a * 3)).block, (adr.add (a * 3)).off + 2, none⟩ = some (.slice V1 lv1 cv1) ∧ w5.cell? (adr.add (b * 3)) = some (.int .i64 x2) ∧ w5.cell? ⟨(adr.add (b * 3)).block, (adr.add (b * 3)).off + 1, none⟩ = some (.int .i64 y2) ∧ w5.cell? ⟨(adr.add (b * 3)).block, (adr.add (b * 3)).off + 2, none⟩ = some (.slice V2 lv2 cv2) ∧ w5.cell? ⟨gb, a, none⟩ = some (.bool true) ∧ w5.cell? ⟨gb, b, none⟩ = some (.bool (hasB fl (b : Int))) := ⟨(b5.cell (block_lt_of_cell p00)).trans p00, (b5.cell (block_lt_of_cell p11)).trans p11, (b5.cell (block_lt_of_cell c0)).trans c0, (b5.cell (block_lt_of_cell c1)).trans c1, (b5.cell (block_lt_of_cell c2)).trans c2, (b5.cell (block_lt_of_cell d0)).trans d0, (b5.cell (block_lt_of_cell d1)).trans d1, (b5.cell (block_lt_of_cell d2)).trans d2, (b5.cell (block_lt_of_cell ua)).trans ua, (b5.cell (block_lt_of_cell ub)).trans ub⟩); obtain ⟨ep00, ep11, ec0, ec1, ec2, ed0, ed1, ed2, eua, eub⟩ := q5
            go_wp2_with fail
            refine hK.out _ _ ?_ (fun hHeld => ?_)
            · exact ⟨ep00, ep11, ec0, ec1, ec2, ed0, ed1, ed2, eua, eub⟩
            clear hK K
            try simp only [Act.put, List.setIfInBounds_toArray, List.set_cons_zero, List.set_cons_succ]
            refine wpAnyH_takeD (i := 21) (d := 48) (v := ?_) rfl (by kernel_rfl) (by kernel_rfl) (by kernel_rfl) (by kernel_rfl) (fun _ _ _ h => h) (Or.inl ⟨by rfl, ?_⟩) (by assumption) ?_
            rotate_left
            · (intro w hSw; (try dsimp only at hSw); go_simp; try with_reducible rfl)
            simp only [Act.put, List.setIfInBounds_toArray, List.set_cons_zero, List.set_cons_succ]
            refine wpAnyH_takeD (i := 22) (d := 49) (v := ?_) rfl (by kernel_rfl) (by kernel_rfl) (by kernel_rfl) (by kernel_rfl) (fun _ _ _ h => h) (Or.inl ⟨by rfl, ?_⟩) (by assumption) ?_
            rotate_left
            · (intro w hSw; (try dsimp only at hSw); go_simp; try with_reducible rfl)
            simp only [Act.put, List.setIfInBounds_toArray, List.set_cons_zero, List.set_cons_succ]
            refine wpAnyH_takeD (i := 23) (d := 50) (v := ?_) rfl (by kernel_rfl) (by kernel_rfl) (by kernel_rfl) (by kernel_rfl) (fun _ _ _ h => h) (Or.inl ⟨by rfl, ?_⟩) (by assumption) ?_
            rotate_left
            · (intro w hSw; (try dsimp only at hSw); go_simp; try with_reducible rfl)
            simp only [Act.put, List.setIfInBounds_toArray, List.set_cons_zero, List.set_cons_succ]
            refine wpAnyH_takeD (i := 24) (d := 51) (v := ?_) rfl (by kernel_rfl) (by kernel_rfl) (by kernel_rfl) (by kernel_rfl) (fun _ _ _ h => h) (Or.inl ⟨by rfl, ?_⟩) (by assumption) ?_
            rotate_left
            · (intro w hSw; (try dsimp only at hSw); go_simp; try with_reducible rfl)
            simp only [Act.put, List.setIfInBounds_toArray, List.set_cons_zero, List.set_cons_succ]
            refine wpAnyH_takeD (i := 25) (d := 52) (v := ?_) rfl (by kernel_rfl) (by kernel_rfl) (by kernel_rfl) (by kernel_rfl) (fun _ _ _ h => h) (Or.inl ⟨by rfl, ?_⟩) (by assumption) ?_
            rotate_left
            · (intro w hSw; (try dsimp only at hSw); go_simp; try with_reducible rfl)
            simp only [Act.put, List.setIfInBounds_toArray, List.set_cons_zero, List.set_cons_succ]
            refine wpAnyH_takeD (i := 26) (d := 53) (v := ?_) rfl (by kernel_rfl) (by kernel_rfl) (by kernel_rfl) (by kernel_rfl) (fun _ _ _ h => h) (Or.inl ⟨by rfl, ?_⟩) (by assumption) ?_
            rotate_left
            · (intro w hSw; (try dsimp only at hSw); go_simp; try with_reducible rfl)
            simp only [Act.put, List.setIfInBounds_toArray, List.set_cons_zero, List.set_cons_succ]
            refine wpAnyH_takeD (i := 27) (d := 54) (v := ?_) rfl (by kernel_rfl) (by kernel_rfl) (by kernel_rfl) (by kernel_rfl) (fun _ _ _ h => h) (Or.inl ⟨by rfl, ?_⟩) (by assumption) ?_
            rotate_left
            · (intro w hSw; (try dsimp only at hSw); go_simp; try with_reducible rfl)
            simp only [Act.put, List.setIfInBounds_toArray, List.set_cons_zero, List.set_cons_succ]
            refine wpAnyH_takeD (i := 28) (d := 55) (v := ?_) rfl (by kernel_rfl) (by kernel_rfl) (by kernel_rfl) (by kernel_rfl) (fun _ _ _ h => h) (Or.inl ⟨by rfl, ?_⟩) (by assumption) ?_
            rotate_left
            · (intro w hSw; (try dsimp only at hSw); go_simp; try with_reducible rfl)
            simp only [Act.put, List.setIfInBounds_toArray, List.set_cons_zero, List.set_cons_succ]
            refine wpAnyH_takeD (i := 29) (d := 56) (v := ?_) rfl (by kernel_rfl) (by kernel_rfl) (by kernel_rfl) (by kernel_rfl) (fun _ _ _ h => h) (Or.inl ⟨by rfl, ?_⟩) (by assumption) ?_
            rotate_left
            · (intro w hSw; (try dsimp only at hSw); go_simp; try with_reducible rfl)
            simp only [Act.put, List.setIfInBounds_toArray, List.set_cons_zero, List.set_cons_succ]
            refine wpAnyH_takeD (i := 30) (d := 57) (v := ?_) rfl (by kernel_rfl) (by kernel_rfl) (by kernel_rfl) (by kernel_rfl) (fun _ _ _ h => h) (Or.inl ⟨by rfl, ?_⟩) (by assumption) ?_
            rotate_left
            · (intro w hSw; (try dsimp only at hSw); go_simp; try with_reducible rfl)
            simp only [Act.put, List.setIfInBounds_toArray, List.set_cons_zero, List.set_cons_succ]
            refine wpAnyH_takeD (i := 31) (d := 58) (v := undef) rfl (by kernel_rfl) (by kernel_rfl) (by kernel_rfl) (by kernel_rfl) (fun _ _ _ h => h) (Or.inr ⟨by rfl, rfl⟩) (by assumption) ?_
            simp only [Act.put, List.setIfInBounds_toArray, List.set_cons_zero, List.set_cons_succ]
            refine wpAnyH_takeD (i := 32) (d := 59) (v := undef) rfl (by kernel_rfl) (by kernel_rfl) (by kernel_rfl) (by kernel_rfl) (fun _ _ _ h => h) (Or.inr ⟨by rfl, rfl⟩) (by assumption) ?_
            simp only [Act.put, List.setIfInBounds_toArray, List.set_cons_zero, List.set_cons_succ]
            refine wpAnyH_takeD (i := 33) (d := 60) (v := undef) rfl (by kernel_rfl) (by kernel_rfl) (by kernel_rfl) (by kernel_rfl) (fun _ _ _ h => h) (Or.inr ⟨by rfl, rfl⟩) (by assumption) ?_
            simp only [Act.put, List.setIfInBounds_toArray, List.set_cons_zero, List.set_cons_succ]
            refine wpAnyH_takeD (i := 34) (d := 61) (v := undef) rfl (by kernel_rfl) (by kernel_rfl) (by kernel_rfl) (by kernel_rfl) (fun _ _ _ h => h) (Or.inr ⟨by rfl, rfl⟩) (by assumption) ?_
            simp only [Act.put, List.setIfInBounds_toArray, List.set_cons_zero, List.set_cons_succ]
            refine wpAnyH_takeD (i := 35) (d := 62) (v := undef) rfl (by kernel_rfl) (by kernel_rfl) (by kernel_rfl) (by kernel_rfl) (fun _ _ _ h => h) (Or.inr ⟨by rfl, rfl⟩) (by assumption) ?_
            simp only [Act.put, List.setIfInBounds_toArray, List.set_cons_zero, List.set_cons_succ]
            refine wpAnyH_takeD (i := 36) (d := 63) (v := ?_) rfl (by kernel_rfl) (by kernel_rfl) (by kernel_rfl) (by kernel_rfl) (fun _ _ _ h => h) (Or.inl ⟨by rfl, ?_⟩) (by assumption) ?_
            rotate_left
            · (intro w hSw; (try dsimp only at hSw); go_simp; try with_reducible rfl)
            simp only [Act.put, List.setIfInBounds_toArray, List.set_cons_zero, List.set_cons_succ]
            refine wpAnyH_done (by kernel_rfl) ?_ _
            have HF := Lib.hid (hbw.trans (b5.mono hbw.size))
            clear p00 p11 c0 c1 c2 d0 d1 d2 ua ub ep00 ep11 ec0 ec1 ec2 ed0 ed1 ed2 eua eub b5 b5' hbw
            go_wp2
            go_ret2
            exact ⟨rfl, HF.out⟩
          case false =>
            rw [hA] at ua
            cases hB : hasB fl (b : Int)
            case true =>
              rw [hB] at ub
              have HCS := Lib.hid (hCS.trans hc)
              obtain rfl : PB = false := HNj.out (.inr (by rw [hRP, hc, hA, hB]; simp))
              clear HNj HYj hRP hc hCS HFL HRR HB
              go_region_held3 (fun w' => w'.cell? ad6 = some (.int .i64 a) ∧ w'.cell? { block := ad6.block, off := ad6.off + 1, spot := none } = some (.int .i64 b) ∧ w'.cell? (adr.add (a * 3)) = some (.int .i64 x) ∧ w'.cell? ⟨(adr.add (a * 3)).block, (adr.add (a * 3)).off + 1, none⟩ = some (.int .i64 y) ∧ w'.cell? ⟨(adr.add (a * 3)).block, (adr.add (a * 3)).off + 2, none⟩ = some (.slice V1 lv1 cv1) ∧ w'.cell? (adr.add (b * 3)) = some (.int .i64 x2) ∧ w'.cell? ⟨(adr.add (b * 3)).block, (adr.add (b * 3)).off + 1, none⟩ = some (.int .i64 y2) ∧ w'.cell? ⟨(adr.add (b * 3)).block, (adr.add (b * 3)).off + 2, none⟩ = some (.slice V2 lv2 cv2) ∧ w'.cell? ⟨gb, a, none⟩ = some (.bool false) ∧ w'.cell? ⟨gb, b, none⟩ = some (.bool true)) (first | exact ⟨p00, p11, c0, c1, c2, d0, d1, d2, ua, ub⟩ | exact q5 | go_keep) ((first | (go_at_call 36; refine (isPair_any (some ad6) cc m [(a : Int), (b : Int)] _ (by exact HV.out) (by simp)).mono ?_; rintro e w4 ⟨rfl, mm, rfl⟩; rw [HPT.out]) | (go_at_call 37; refine (canSwap_any _ _ _ _ n _ lv1 _ lv2 _ l _ x y x2 y2 vs xs xs2 us _ (by exact (HX.out.below hbw).below (by first | exact below_drewN (below_drewN (Below.refl _ _) 1) _ | exact below_drewN (Below.refl _ _) _ | exact (below_drewN (Below.refl _ _) _).drew)) (by exact HV1.out.below (by first | exact below_drewN (below_drewN (Below.refl _ _) 1) _ | exact below_drewN (Below.refl _ _) _ | exact (below_drewN (Below.refl _ _) _).drew)) (by exact HV2.out.below (by first | exact below_drewN (below_drewN (Below.refl _ _) 1) _ | exact below_drewN (Below.refl _ _) _ | exact (below_drewN (Below.refl _ _) _).drew)) (by exact (HU.out.below hbw).below (by first | exact below_drewN (below_drewN (Below.refl _ _) 1) _ | exact below_drewN (Below.refl _ _) _ | exact (below_drewN (Below.refl _ _) _).drew)) hka hkb).mono ?_; rintro e w5 ⟨rfl, b5'⟩; rw [HCS.out]; have b5 : Below wr.heap.size wr w5 := Below.trans (by first | exact below_drewN (below_drewN (Below.refl _ _) 1) _ | exact below_drewN (Below.refl _ _) _ | exact (below_drewN (Below.refl _ _) _).drew) b5'; have q5 : w5.cell? ad6 = some (.int .i64 a) ∧ w5.cell? { block := ad6.block, off := ad6.off + 1, spot := none } = some (.int .i64 b) ∧ w5.cell? (adr.add (a * 3)) = some (.int .i64 x) ∧ w5.cell? ⟨(adr.add (a * 3)).block, (adr.add (a * 3)).off + 1, none⟩ = some (.int .i64 y) ∧ w5.cell? ⟨(adr.add (a * 3)).block, (adr.add (a * 3)).off + 2, none⟩ = some (.slice V1 lv1 cv1) ∧ w5.cell? (adr.add (b * 3)) = some (.int .i64 x2) ∧ w5.cell? ⟨(adr.add (b * 3)).block, (adr.add (b * 3)).off + 1, none⟩ = some (.int .i64 y2) ∧ w5.cell? ⟨(adr.add (b * 3)).block, (adr.add (b * 3)).off + 2, none⟩ = some (.slice V2 lv2 cv2) ∧ w5.cell? ⟨gb, a, none⟩ = some (.bool false) ∧ w5.cell? ⟨gb, b, none⟩ = some (.bool true) := ⟨(b5.cell (block_lt_of_cell p00)).trans p00, (b5.cell (block_lt_of_cell p11)).trans p11, (b5.cell (block_lt_of_cell c0)).trans c0, (b5.cell (block_lt_of_cell c1)).trans c1, (b5.cell (block_lt_of_cell c2)).trans c2, (b5.cell (block_lt_of_cell d0)).trans d0, (b5.cell (block_lt_of_cell d1)).trans d1, (b5.cell (block_lt_of_cell d2)).trans d2, (b5.cell (block_lt_of_cell ua)).trans ua, (b5.cell (block_lt_of_cell ub)).trans ub⟩) | fail))
              have HF := Lib.hid (hbw.trans (b5.mono hbw.size))
              clear p00 p11 c0 c1 c2 d0 d1 d2 ua ub q5 b5 b5' hbw
              go_wp2
              go_ret2
              exact ⟨rfl, HF.out⟩
            case false =>
              rw [hB] at ub
              have HCS := Lib.hid (hCS.trans hc)
              have HP2 := Lib.hid (HYj.out HPT.out (by rw [hRP, hc, hA, hB]; rfl))
              clear HNj HYj hRP hc hCS hA hB
              go_region_held3 (fun w' => w'.cell? ad6 = some (.int .i64 a) ∧ w'.cell? { block := ad6.block, off := ad6.off + 1, spot := none } = some (.int .i64 b) ∧ w'.cell? (adr.add (a * 3)) = some (.int .i64 x) ∧ w'.cell? ⟨(adr.add (a * 3)).block, (adr.add (a * 3)).off + 1, none⟩ = some (.int .i64 y) ∧ w'.cell? ⟨(adr.add (a * 3)).block, (adr.add (a * 3)).off + 2, none⟩ = some (.slice V1 lv1 cv1) ∧ w'.cell? (adr.add (b * 3)) = some (.int .i64 x2) ∧ w'.cell? ⟨(adr.add (b * 3)).block, (adr.add (b * 3)).off + 1, none⟩ = some (.int .i64 y2) ∧ w'.cell? ⟨(adr.add (b * 3)).block, (adr.add (b * 3)).off + 2, none⟩ = some (.slice V2 lv2 cv2) ∧ w'.cell? ⟨gb, a, none⟩ = some (.bool false) ∧ w'.cell? ⟨gb, b, none⟩ = some (.bool false)) (first | exact ⟨p00, p11, c0, c1, c2, d0, d1, d2, ua, ub⟩ | exact q5 | go_keep) ((first | (go_at_call 36; refine (isPair_any (some ad6) cc m [(a : Int), (b : Int)] _ (by exact HV.out) (by simp)).mono ?_; rintro e w4 ⟨rfl, mm, rfl⟩; rw [HPT.out]) | (go_at_call 37; refine (canSwap_any _ _ _ _ n _ lv1 _ lv2 _ l _ x y x2 y2 vs xs xs2 us _ (by exact (HX.out.below hbw).below (by first | exact below_drewN (below_drewN (Below.refl _ _) 1) _ | exact below_drewN (Below.refl _ _) _ | exact (below_drewN (Below.refl _ _) _).drew)) (by exact HV1.out.below (by first | exact below_drewN (below_drewN (Below.refl _ _) 1) _ | exact below_drewN (Below.refl _ _) _ | exact (below_drewN (Below.refl _ _) _).drew)) (by exact HV2.out.below (by first | exact below_drewN (below_drewN (Below.refl _ _) 1) _ | exact below_drewN (Below.refl _ _) _ | exact (below_drewN (Below.refl _ _) _).drew)) (by exact (HU.out.below hbw).below (by first | exact below_drewN (below_drewN (Below.refl _ _) 1) _ | exact below_drewN (Below.refl _ _) _ | exact (below_drewN (Below.refl _ _) _).drew)) hka hkb).mono ?_; rintro e w5 ⟨rfl, b5'⟩; rw [HCS.out]; have b5 : Below wr.heap.size wr w5 := Below.trans (by first | exact below_drewN (below_drewN (Below.refl _ _) 1) _ | exact below_drewN (Below.refl _ _) _ | exact (below_drewN (Below.refl _ _) _).drew) b5'; have q5 : w5.cell? ad6 = some (.int .i64 a) ∧ w5.cell? { block := ad6.block, off := ad6.off + 1, spot := none } = some (.int .i64 b) ∧ w5.cell? (adr.add (a * 3)) = some (.int .i64 x) ∧ w5.cell? ⟨(adr.add (a * 3)).block, (adr.add (a * 3)).off + 1, none⟩ = some (.int .i64 y) ∧ w5.cell? ⟨(adr.add (a * 3)).block, (adr.add (a * 3)).off + 2, none⟩ = some (.slice V1 lv1 cv1) ∧ w5.cell? (adr.add (b * 3)) = some (.int .i64 x2) ∧ w5.cell? ⟨(adr.add (b * 3)).block, (adr.add (b * 3)).off + 1, none⟩ = some (.int .i64 y2) ∧ w5.cell? ⟨(adr.add (b * 3)).block, (adr.add (b * 3)).off + 2, none⟩ = some (.slice V2 lv2 cv2) ∧ w5.cell? ⟨gb, a, none⟩ = some (.bool false) ∧ w5.cell? ⟨gb, b, none⟩ = some (.bool false) := ⟨(b5.cell (block_lt_of_cell p00)).trans p00, (b5.cell (block_lt_of_cell p11)).trans p11, (b5.cell (block_lt_of_cell c0)).trans c0, (b5.cell (block_lt_of_cell c1)).trans c1, (b5.cell (block_lt_of_cell c2)).trans c2, (b5.cell (block_lt_of_cell d0)).trans d0, (b5.cell (block_lt_of_cell d1)).trans d1, (b5.cell (block_lt_of_cell d2)).trans d2, (b5.cell (block_lt_of_cell ua)).trans ua, (b5.cell (block_lt_of_cell ub)).trans ub⟩) | fail))
              obtain ⟨ep00, ep11, ec0, ec1, ec2, ed0, ed1, ed2, eua, eub⟩ := q5
              have hb5 := Lib.hid (hbw.trans (b5.mono hbw.size))
              have HB5 := Lib.hid (box_below HB.out b5)
              clear p00 p11 c0 c1 c2 d0 d1 d2 ua ub ec0 ec1 ec2 ed0 ed1 ed2 HV HV1 HV2 b5' HB HPT HCS
              have fa := box_free HB5.out a
              have fb := box_free HB5.out b
              have HX9 := Lib.hid (box_set (box_set HB5.out a (.bool true)) b (.bool true))
              rw [usedA_set] at HX9
              have lx := lt_of_block HB5.out
              have nu : ad6.block ≠ gb := by omega
              have nab : a ≠ b := by omega
              clear HB5 hbw b5
              have HXW : Hid ((World.drew ((w5.setCell ⟨gb, a, none⟩ (.bool true)).setCell ⟨gb, b, none⟩ (.bool true))).heap[gb]? = some (.cells (usedA (fl ++ [(a : Int), (b : Int)])) 64 (0, 0))) := HX9
              have HBW : Hid (Below w.heap.size w (World.drew ((w5.setCell ⟨gb, a, none⟩ (.bool true)).setCell ⟨gb, b, none⟩ (.bool true)))) := Lib.hid ((hb5.out.setCell (p := ⟨gb, a, none⟩) hgw _).setCell (p := ⟨gb, b, none⟩) hgw _).drew
              clear HX9
              go_wp2_with fail
              go_region
              generalize World.drew ((w5.setCell ⟨gb, a, none⟩ (.bool true)).setCell ⟨gb, b, none⟩ (.bool true)) = w7 at *
              clear ep00 ep11 eua eub fa fb lx hb5
              go_wp2
              go_roundw
              case rel => exact ⟨j + 1, by omega, by go_num, by rw [HML.out]; exact HP2, by rw [HFL.out]; exact HXW, HBW.out⟩
              case measure => simp [intOf]; omega
    case neg =>
      obtain rfl : j = R.length := by omega
      have hb := HE.out HP.out
      clear HE HP HB HN
      subst hb
      go_wp2
      go_ret2
      exact ⟨rfl, hbw⟩
end Go.Proofs.YtahbcnclhohnaaaGreat
