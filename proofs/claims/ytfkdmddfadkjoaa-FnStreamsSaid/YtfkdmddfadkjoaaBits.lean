/- BitsFrom, of the reference and of the program. -/
import Derived.Test.YtfkdmddfadkjoaaUniform
import Derived.Test.YtfkdmddfadkjoaaAppend
namespace Go.Proofs.Ytfkdmddfadkjoaa
open Go.RowKit

/-- BitsFrom's answer. -/
def bitsR (s a n : Int) : Option (List Int × Int) :=
  if streamB s a = true ∧ inR n 0 200 = true then (if a + n ≤ 1000000 then some (tabl n.toNat fun i => bitV s (a + i), a + n) else none) else none
theorem bitsR_1 {s a n : Int} (h : streamB s a = false) : bitsR s a n = none := by unfold bitsR; rw [if_neg (by simp [h])]
theorem bitsR_2 {s a n : Int} (h : inR n 0 200 = false) : bitsR s a n = none := by unfold bitsR; rw [if_neg (by simp [h])]
theorem bitsR_3 {s a n : Int} (h1 : streamB s a = true) (h : inR n 0 200 = true) (h3 : 1000000 < a + n) : bitsR s a n = none := by unfold bitsR; rw [if_pos ⟨h1, h⟩, if_neg (by omega)]
theorem bitsR_4 {s a n : Int} (h1 : streamB s a = true) (h : inR n 0 200 = true) (h3 : a + n ≤ 1000000) : bitsR s a n = some (tabl n.toNat fun i => bitV s (a + i), a + n) := by unfold bitsR; rw [if_pos ⟨h1, h⟩, if_pos h3]
/-- The list of an answer. -/
def oL : Option (List Int × Int) → List Int
  | some (l, _) => l
  | none => []
theorem slip_yes {s a : Int} {l : List Int} {R : Option (List Int × Int)} {A : Option Addr} {n c : Nat} (h : R = some (l, a)) (hn : n = l.length) : Ending.returned (.tuple #[.slice A n c, .agg #[.int .i64 s, .int .i64 a], .bool true]) = .returned (.tuple #[.slice A (oL R).length c, .agg #[.int .i64 (oS s R), .int .i64 (oA R)], .bool (oB R)]) := by subst h; subst hn; rfl
theorem slip_no {s : Int} {R : Option (List Int × Int)} (h : R = none) : Ending.returned (.tuple #[.slice none 0 0, .agg #[.int .i64 0, .int .i64 0], .bool false]) = .returned (.tuple #[.slice none (oL R).length 0, .agg #[.int .i64 (oS s R), .int .i64 (oA R)], .bool (oB R)]) := by subst h; rfl
theorem StrAt.far {w : World} {g : Nat} {s a : Int} (h : StrAt w g s a) {p : Addr} (hp : g ≠ p.block) (v : Value) : StrAt (w.setCell p v) g s a := (Below.heap_setCell w p v g hp).trans h
theorem RdrAt.far {w : World} {g : Nat} {s a : Int} {ok : Bool} (h : RdrAt w g s a ok) {p : Addr} (hp : g ≠ p.block) (v : Value) : RdrAt (w.setCell p v) g s a ok := (Below.heap_setCell w p v g hp).trans h
theorem box_far {w : World} {g : Nat} {o : Obj} (h : w.heap[g]? = some o) {p : Addr} (hp : g ≠ p.block) (v : Value) : (w.setCell p v).heap[g]? = some o := (Below.heap_setCell w p v g hp).trans h

set_option maxRecDepth 100000 in
set_option maxHeartbeats 2000000 in
theorem implBitsFrom_law (s a n : Int) (w : World) :
    Calls Try.prog 32 #[.agg #[.int .i64 s, .int .i64 a], .int .i64 n] w fun e w' => ∃ A c, e = .returned (.tuple #[.slice A (oL (bitsR s a n)).length c, .agg #[.int .i64 (oS s (bitsR s a n)), .int .i64 (oA (bitsR s a n))], .bool (oB (bitsR s a n))]) ∧ OwnI w' w.heap.size w'.heap.size A (oL (bitsR s a n)).length c (oL (bitsR s a n)) ∧ Below w.heap.size w w' := by
  obtain ⟨b0, x2, x5⟩ := box_two w #[.int .i64 s, .int .i64 a] #[.int .i64 0, .int .i64 0] 38 38
  go_enter Try.func32, Try.ntmps32
  go_wp2_with fail
  generalize (w.alloc (.cells #[.int .i64 s, .int .i64 a] 38)).alloc (.cells #[.int .i64 0, .int .i64 0] 38) = w0 at *
  refine (implIsStream_any _ _ _).mono ?_
  rintro e w1 ⟨rfl, b1⟩
  replace x2 := box_below x2 b1
  replace x5 := box_below x5 b1
  replace b1 := b0.trans (b1.mono b0.size)
  clear b0
  have c0 := box_cell x2 0 _ rfl
  have c1 := box_cell x2 1 _ rfl
  have d0 := box_cell x5 0 _ rfl
  have d1 := box_cell x5 1 _ rfl
  have f0 := box_free x5 0
  have f1 := box_free x5 1
  have h5 := lt_of_block x5
  have hs1 := b1.size
  cases hB : streamB s a
  · have R := Lib.hid (bitsR_1 (n := n) hB)
    clear hB
    have y5 := store_two x5 (.int .i64 0) (.int .i64 0)
    have e0 := box_cell y5 0 _ rfl
    have e1 := box_cell y5 1 _ rfl
    go_wp2
    refine bodyPost_ret (v := .tuple #[.slice none 0 0, .agg #[.int .i64 0, .int .i64 0], .bool false]) (by simp [results, Try.results32, go_sem, e0, e1]) rfl ⟨none, 0, slip_no R.out, by rw [R.out]; exact OwnI.of_own Own.nil_ (by simp [oL]), below_two b1 (by omega)⟩
  · by_cases hn : 0 ≤ n ∧ n ≤ 200
    · obtain ⟨m, rfl⟩ := Int.eq_ofNat_of_zero_le hn.1
      have hN : inR (m : Int) 0 200 = true := inR_yes hn.1 hn.2
      have R1 := Lib.hid (bitsR_3 hB hN)
      have R2 := Lib.hid (bitsR_4 hB hN)
      have ha := streamB_of hB
      have hm : m ≤ 200 := by omega
      clear hB hN hn
      simp only [Int.toNat_natCast] at R2
      have TL := Lib.hid (tabl_len m fun i => bitV s (a + i))
      have TA : Hid (∀ k, k < m → (tabl m fun i => bitV s (a + i))[k]?.getD 0 = bitV s (a + k)) := Lib.hid fun k h => tabl_at h
      generalize (tabl m fun i => bitV s (a + i)) = T at *
      obtain ⟨i0, hi, hz0, hz1, hz2⟩ := info_parts Try.infoInt
      go_wp2_with (at_make; refine wpList_make_full _ rfl _ _ 22 rfl w1.heap.size 3 i0 _ 1 Try.underlying22 hi hz0 hz1 .i64 .i64 _ _ m rfl rfl rfl rfl (by rw [hz2]; omega) (by unfold maxLen; omega) (Nat.le_refl _) ?_; intro w2 hown hg)
      rw [map_replicate0] at hown
      have hO : OwnI w2 w1.heap.size w2.heap.size (some ⟨w1.heap.size, 0, none⟩) m m (List.replicate m 0) := OwnI.of_own hown (by omega)
      replace hO : OwnI w2 w1.heap.size (w1.heap.size + 1) (some ⟨w1.heap.size, 0, none⟩) m m (List.replicate m 0) := ⟨hO.own, fun k hk => by simp [rowOf] at hk; omega, hO.small⟩
      have b12 : Below w1.heap.size w1 w2 := (Below.refl _ _).grown hg (Nat.le_refl _) (by simp)
      have y2 : StrAt w2 w.heap.size s a := box_below x2 b12
      replace x5 := box_below x5 b12
      have b2 := b1.trans (b12.mono hs1)
      clear hown hg hi hz0 hz1 hz2 b12 x2 b1 c0 c1 d0 d1 f0 f1
      go_loopw [27] (fun i wr => ∃ (k : Nat) (ys : List Int), k ≤ m ∧ i = .int .i64 k ∧ a + k ≤ 1000000 ∧ Agree T ys m k ∧ OwnI wr w1.heap.size (w1.heap.size + 1) (some ⟨w1.heap.size, 0, none⟩) m m ys ∧ StrAt wr w.heap.size s (a + k) ∧ wr.heap[w.heap.size + 1]? = some (.cells #[.int .i64 0, .int .i64 0] 38 (0, 0)) ∧ Below w.heap.size w wr) (fun i _ => m - (intOf i).toNat)
      case atStart => exact ⟨0, _, Nat.zero_le _, rfl, by omega, Agree.start _ _, hO, by simpa using y2, x5, b2⟩
      case round =>
        clear hO y2 x5 b2
        obtain ⟨k, ys, hk, rfl, hak, hag, hown, hs, x5, hbw⟩ := hrel
        have hsz := hbw.size
        by_cases hlt : k < m
        · by_cases hb : a + k < 1000000
          · go_wp2_with fail
            refine (next_ok _ _ _ _ hs (by omega) hb).mono ?_
            rintro e w3 ⟨rfl, hs3, hc⟩
            have x53 := box_chg x5 hc (.inr (by omega))
            have hO3 := hown.chg hc (.inr (by omega))
            have hb3 := hc.below hbw (Nat.le_refl _) hsz
            clear hs hc x5 hown hbw
            obtain ⟨gg, hge, _, hgl, hcg, hfg⟩ := hO3.own.at_ hlt
            simp only [Option.some.injEq, Addr.mk.injEq, and_true] at hge
            subst hge
            have E := TA.out k hlt
            have R1' := hag.step TL.out hlt
            rw [E] at R1'
            have HR1 := Lib.hid R1'
            clear R1' E hag
            have HR2 := Lib.hid (show OwnI (w3.setCell ⟨w1.heap.size, k, none⟩ (.int .i64 (bitV s (a + k)))) w1.heap.size (w1.heap.size + 1) (some ⟨w1.heap.size, 0, none⟩) m m (ys.set k (bitV s (a + k))) from ⟨hO3.own.set, hO3.top, hO3.small⟩)
            have HR3 := Lib.hid (hs3.far (p := ⟨w1.heap.size, k, none⟩) (by simp; omega) (.int .i64 (bitV s (a + k))))
            have HR4 := Lib.hid (box_far x53 (p := ⟨w1.heap.size, k, none⟩) (by simp; omega) (.int .i64 (bitV s (a + k))))
            have HR5 := Lib.hid (hb3.setCell (p := ⟨w1.heap.size, k, none⟩) (by simp; omega) (.int .i64 (bitV s (a + k))))
            clear hO3 hs3 x53 hb3 hgl
            go_wp2
            go_roundw
            case rel => exact ⟨k + 1, _, by omega, by go_num, by omega, HR1.out, HR2.out, by rw [show a + ((k + 1 : Nat) : Int) = a + k + 1 by omega]; exact HR3.out, HR4.out, HR5.out⟩
            case measure => simp [intOf]; omega
          · have R := Lib.hid (R1.out (by omega))
            have d0 := box_cell x5 0 _ rfl
            have d1 := box_cell x5 1 _ rfl
            have f0 := box_free x5 0
            have f1 := box_free x5 1
            have y5 := store_two x5 (.int .i64 0) (.int .i64 0)
            have e0 := box_cell y5 0 _ rfl
            have e1 := box_cell y5 1 _ rfl
            go_wp2_with fail
            refine (next_no _ _ _ _ hs (by omega)).mono ?_
            rintro e w3 ⟨rfl, rfl⟩
            go_wp2
            refine bodyPost_ret (v := .tuple #[.slice none 0 0, .agg #[.int .i64 0, .int .i64 0], .bool false]) (by simp [results, Try.results32, go_sem, e0, e1]) rfl ⟨none, 0, slip_no R.out, by rw [R.out]; exact OwnI.of_own Own.nil_ (by simp [oL]), below_two hbw (by omega)⟩
        · obtain rfl : m = k := by omega
          have R := Lib.hid (R2.out hak)
          have TE := hag.fin TL.out (Nat.le_refl _)
          subst TE
          have c0 := box_cell hs 0 _ rfl
          have c1 := box_cell hs 1 _ rfl
          have d0 := box_cell x5 0 _ rfl
          have d1 := box_cell x5 1 _ rfl
          have f0 := box_free x5 0
          have f1 := box_free x5 1
          have y5 := store_two x5 (.int .i64 s) (.int .i64 (a + m))
          have e0 := box_cell y5 0 _ rfl
          have e1 := box_cell y5 1 _ rfl
          have HO := Lib.hid (OwnI.fit (hown.chg (((Chg.refl (w.heap.size + 1) (w.heap.size + 2) wr).set (i := 0) (v := .int .i64 s) (Nat.le_refl _) (by omega)).set (i := 1) (v := .int .i64 (a + m)) (Nat.le_refl _) (by omega)) (.inr (by omega))) hs1)
          have HL := Lib.hid hown.own.len.symm
          clear hag hown
          go_wp2
          go_region
          all_goals (try go_wp2)
          all_goals refine bodyPost_ret (v := .tuple #[.slice (some ⟨w1.heap.size, 0, none⟩) m m, .agg #[.int .i64 s, .int .i64 (a + m)], .bool true]) (by simp [results, Try.results32, go_sem, e0, e1]) rfl ⟨_, m, slip_yes R.out HL.out, ?_, (below_two hbw (by omega)).drew⟩
          all_goals (rw [R.out]; simp only [oL]; rw [← HL.out]; exact HO.out.drew)
    · have hN : inR n 0 200 = false := inR_no (by omega)
      have R := Lib.hid (bitsR_2 (s := s) (a := a) hN)
      have y5 := store_two x5 (.int .i64 0) (.int .i64 0)
      have e0 := box_cell y5 0 _ rfl
      have e1 := box_cell y5 1 _ rfl
      clear hB hN
      by_cases h1 : n < 0
      · go_wp2
        refine bodyPost_ret (v := .tuple #[.slice none 0 0, .agg #[.int .i64 0, .int .i64 0], .bool false]) (by simp [results, Try.results32, go_sem, e0, e1]) rfl ⟨none, 0, slip_no R.out, by rw [R.out]; exact OwnI.of_own Own.nil_ (by simp [oL]), below_two b1 (by omega)⟩
      · have h2 : 200 < n := by omega
        go_wp2
        refine bodyPost_ret (v := .tuple #[.slice none 0 0, .agg #[.int .i64 0, .int .i64 0], .bool false]) (by simp [results, Try.results32, go_sem, e0, e1]) rfl ⟨none, 0, slip_no R.out, by rw [R.out]; exact OwnI.of_own Own.nil_ (by simp [oL]), below_two b1 (by omega)⟩

set_option maxRecDepth 100000 in
set_option maxHeartbeats 2000000 in
theorem specBitsFrom_law (s a n : Int) (w : World) :
    Calls Try.prog 33 #[.agg #[.int .i64 s, .int .i64 a], .int .i64 n] w fun e w' => ∃ A c, e = .returned (.tuple #[.slice A (oL (bitsR s a n)).length c, .agg #[.int .i64 (oS s (bitsR s a n)), .int .i64 (oA (bitsR s a n))], .bool (oB (bitsR s a n))]) ∧ OwnI w' w.heap.size w'.heap.size A (oL (bitsR s a n)).length c (oL (bitsR s a n)) ∧ Below w.heap.size w w' := by
  obtain ⟨b0, x2, x5⟩ := box_two w #[.int .i64 s, .int .i64 a] #[.int .i64 0, .int .i64 0] 38 38
  go_enter Try.func33, Try.ntmps33
  go_wp2_with fail
  generalize (w.alloc (.cells #[.int .i64 s, .int .i64 a] 38)).alloc (.cells #[.int .i64 0, .int .i64 0] 38) = w0 at *
  refine (kGood_any _ _ _).mono ?_
  rintro e w1 ⟨rfl, b1⟩
  replace x2 := box_below x2 b1
  replace x5 := box_below x5 b1
  replace b1 := b0.trans (b1.mono b0.size)
  clear b0
  have c0 := box_cell x2 0 _ rfl
  have c1 := box_cell x2 1 _ rfl
  have d0 := box_cell x5 0 _ rfl
  have d1 := box_cell x5 1 _ rfl
  have f0 := box_free x5 0
  have f1 := box_free x5 1
  have h5 := lt_of_block x5
  have hs1 := b1.size
  cases hB : streamB s a
  · have R := Lib.hid (bitsR_1 (n := n) hB)
    clear hB
    have y5 := store_two x5 (.int .i64 0) (.int .i64 0)
    have e0 := box_cell y5 0 _ rfl
    have e1 := box_cell y5 1 _ rfl
    go_wp2
    refine bodyPost_ret (v := .tuple #[.slice none 0 0, .agg #[.int .i64 0, .int .i64 0], .bool false]) (by simp [results, Try.results33, go_sem, e0, e1]) rfl ⟨none, 0, slip_no R.out, by rw [R.out]; exact OwnI.of_own Own.nil_ (by simp [oL]), below_two b1 (by omega)⟩
  · by_cases hn : 0 ≤ n ∧ n ≤ 200
    · obtain ⟨m, rfl⟩ := Int.eq_ofNat_of_zero_le hn.1
      have hN : inR (m : Int) 0 200 = true := inR_yes hn.1 hn.2
      have R1 := Lib.hid (bitsR_3 hB hN)
      have R2 := Lib.hid (bitsR_4 hB hN)
      have ha := streamB_of hB
      have hm : m ≤ 200 := by omega
      simp only [Int.toNat_natCast] at R2
      have HN := Lib.hid hN
      clear hB hN hn
      go_wp2_with fail
      refine (l1In_any _ _ _ _).mono ?_
      rintro e w2 ⟨rfl, rfl⟩
      rw [HN.out]
      go_wp2_with fail
      refine (kOpen_any _ _ _).mono ?_
      rintro e w3 ⟨g, rfl, hr, hg, b3⟩
      replace x5 := box_below x5 b3
      replace b3 := b1.trans (b3.mono b1.size)
      clear b1 c0 c1 d0 d1 f0 f1 x2
      go_wp2
      have hgl := hr.lt
      have hs3 := b3.size
      go_loopw [1, 8] (fun i v wr => ∃ (k : Nat) (A : Option Addr) (c : Nat) (ys : List Int) (b : Int) (ok : Bool), k ≤ m ∧ i = .int .i64 ((m : Int) - k) ∧ v = .slice A k c ∧ OwnI wr w3.heap.size wr.heap.size A k c ys ∧ RdrAt wr g s b ok ∧ 0 ≤ b ∧ b ≤ 1000000 ∧ Hid ((ok = true ∧ b = a + k ∧ ys = tabl k fun i => bitV s (a + i)) ∨ (ok = false ∧ 1000000 < a + m)) ∧ wr.heap[w.heap.size + 1]? = some (.cells #[.int .i64 0, .int .i64 0] 38 (0, 0)) ∧ w3.heap.size ≤ wr.heap.size ∧ Below w.heap.size w wr) (fun i _ _ => (intOf i).toNat)
      case atStart => exact ⟨0, none, 0, [], a, true, Nat.zero_le _, by go_num, rfl, OwnI.of_own Own.nil_ (by omega), hr, ha.1, ha.2, Lib.hid (.inl ⟨rfl, by omega, rfl⟩), x5, Nat.le_refl _, b3⟩
      case round =>
        clear hr x5 b3
        obtain ⟨k, A, c, ys, b, ok, hk, rfl, rfl, hown, hr, hb0, hb1, hst, x5, hz3, hbw⟩ := hrel
        have hsz := hbw.size
        by_cases hlt : k < m
        · go_wp2_with fail
          refine (bit_any _ _ _ _ _ hr hb0 hb1).mono ?_
          rintro e w4 ⟨hyes, hno, hc⟩
          have x54 := box_chg x5 hc (.inl (by omega))
          have hz4 := hc.size
          have hO4 := hown.own.keep (w' := w4) (fun gg hA hl => hc.block gg hl (by have := (hown.own.row_ge gg (by rw [hA]; rfl)).1; omega))
          have hb4 := hc.below hbw (by omega) hsz
          have hz34 : w3.heap.size ≤ w4.heap.size := by omega
          have hsz4 := hb4.size
          clear hr x5 hown hbw hc
          have Hst : ∃ (v b2 : Int) (ok2 : Bool), e = .returned (.int .i64 v) ∧ RdrAt w4 g s b2 ok2 ∧ 0 ≤ b2 ∧ b2 ≤ 1000000 ∧ ((ok2 = true ∧ b2 = a + ((k + 1 : Nat) : Int) ∧ ys ++ [v] = tabl (k + 1) fun i => bitV s (a + i)) ∨ (ok2 = false ∧ 1000000 < a + m)) := by
            rcases hst.out with ⟨rfl, rfl, rfl⟩ | ⟨rfl, hm2⟩
            · by_cases hb : a + k < 1000000
              · obtain ⟨he, hr⟩ := hyes _ _ (if_pos ⟨rfl, hb⟩)
                exact ⟨_, _, true, he, hr, by omega, by omega, .inl ⟨rfl, by omega, (tabl_succ k fun i => bitV s (a + i)).symm⟩⟩
              · obtain ⟨he, b2, hr, h0, h1⟩ := hno (if_neg (fun h => hb h.2))
                exact ⟨0, b2, false, he, hr, h0, h1, .inr ⟨rfl, by omega⟩⟩
            · obtain ⟨he, b2, hr, h0, h1⟩ := hno (if_neg (by simp))
              exact ⟨0, b2, false, he, hr, h0, h1, .inr ⟨rfl, hm2⟩⟩
          obtain ⟨v, b2, ok2, rfl, hr4, h20, h21, hst2⟩ := Hst
          have HST := Lib.hid hst2
          clear hyes hno hst2 hst
          go_wp2_with (at_builtin; refine wp_app1 rfl _ _ rfl w3.heap.size A k c _ rfl hO4 _ rfl rfl (by omega) hz34 ?_; intro A2 c2 w5 hown2 hg2 _)
          have hb5 := below_write hb4 hg2 hsz4 (fun j hj => by have := (hO4.row_ge j hj).1; omega)
          have hrow : ∀ j, some j = rowOf A → w3.heap.size ≤ j := fun j hj => (hO4.row_ge j hj.symm).1
          have hr5 : RdrAt w5 g s b2 ok2 := (hg2.block g hr4.lt (fun e => by have := hrow g e; omega)).trans hr4
          have x55 : w5.heap[w.heap.size + 1]? = some (.cells #[.int .i64 0, .int .i64 0] 38 (0, 0)) := (hg2.block _ (lt_of_block x54) (fun e => by have := hrow _ e; omega)).trans x54
          have hO5 := OwnI.of_own hown2 (by omega)
          have hz5 := hg2.size
          clear hO4 hr4 x54 hb4 hg2 hown2
          go_wp2
          go_roundw
          case rel => exact ⟨k + 1, A2, c2, _, b2, ok2, by omega, by go_num, rfl, hO5, hr5, h20, h21, HST, x55, by omega, hb5⟩
          case measure => simp [intOf]; omega
        · obtain rfl : m = k := by omega
          have c2 := box_cell hr 2 _ rfl
          have d0 := box_cell x5 0 _ rfl
          have d1 := box_cell x5 1 _ rfl
          have f0 := box_free x5 0
          have f1 := box_free x5 1
          rcases hst.out with ⟨rfl, rfl, rfl⟩ | ⟨rfl, hm2⟩
          · have R := Lib.hid (R2.out (by omega))
            have c0 := box_cell hr 0 _ rfl
            have c1 := box_cell hr 1 _ rfl
            have y5 := store_two x5 (.int .i64 s) (.int .i64 (a + m))
            have e0 := box_cell y5 0 _ rfl
            have e1 := box_cell y5 1 _ rfl
            have HO := Lib.hid (OwnI.fit (OwnI.of_own (hown.own.keep (w' := (wr.setCell ⟨w.heap.size + 1, 0, none⟩ (.int .i64 s)).setCell ⟨w.heap.size + 1, 1, none⟩ (.int .i64 (a + m))) (fun gg hA hl => by
              have h9 := (hown.own.row_ge gg (by rw [hA]; rfl)).1
              exact ((((Chg.refl (w.heap.size + 1) (w.heap.size + 2) wr).set (i := 0) (v := .int .i64 s) (Nat.le_refl _) (by omega)).set (i := 1) (v := .int .i64 (a + m)) (Nat.le_refl _) (by omega)).block gg hl (.inr (by omega))))) (by omega)) hs3)
            have HL := Lib.hid hown.own.len.symm
            clear hst hown
            go_wp2
            go_region
            all_goals (try go_wp2)
            all_goals refine bodyPost_ret (v := .tuple #[.slice A m c, .agg #[.int .i64 s, .int .i64 (a + m)], .bool true]) (by simp [results, Try.results33, go_sem, e0, e1]) rfl ⟨_, c, slip_yes R.out HL.out, ?_, (below_two hbw (by omega)).drew⟩
            all_goals (rw [R.out]; simp only [oL]; rw [← HL.out]; exact HO.out.drew)
          · have R := Lib.hid (R1.out hm2)
            have y5 := store_two x5 (.int .i64 0) (.int .i64 0)
            have e0 := box_cell y5 0 _ rfl
            have e1 := box_cell y5 1 _ rfl
            go_wp2
            refine bodyPost_ret (v := .tuple #[.slice none 0 0, .agg #[.int .i64 0, .int .i64 0], .bool false]) (by simp [results, Try.results33, go_sem, e0, e1]) rfl ⟨none, 0, slip_no R.out, by rw [R.out]; exact OwnI.of_own Own.nil_ (by simp [oL]), below_two hbw (by omega)⟩
    · have hN : inR n 0 200 = false := inR_no (by omega)
      have R := Lib.hid (bitsR_2 (s := s) (a := a) hN)
      have HN := Lib.hid hN
      have y5 := store_two x5 (.int .i64 0) (.int .i64 0)
      have e0 := box_cell y5 0 _ rfl
      have e1 := box_cell y5 1 _ rfl
      clear hB hN
      go_wp2_with fail
      refine (l1In_any _ _ _ _).mono ?_
      rintro e w2 ⟨rfl, rfl⟩
      rw [HN.out]
      go_wp2
      refine bodyPost_ret (v := .tuple #[.slice none 0 0, .agg #[.int .i64 0, .int .i64 0], .bool false]) (by simp [results, Try.results33, go_sem, e0, e1]) rfl ⟨none, 0, slip_no R.out, by rw [R.out]; exact OwnI.of_own Own.nil_ (by simp [oL]), below_two b1 (by omega)⟩
end Go.Proofs.Ytfkdmddfadkjoaa
