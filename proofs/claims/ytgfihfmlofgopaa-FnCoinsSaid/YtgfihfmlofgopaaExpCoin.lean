/- ExpCoin, of the reference and of the program. -/
import Derived.Test.YtgfihfmlofgopaaCoinOf
import Derived.Test.YtgfihfmlofgopaaKExp
namespace Go.Proofs.Ytgfihfmlofgopaa
open Go.RowKit

/-- ExpCoin's answer. -/
def expR (s a p q : Int) : Option (Bool × Int) := gR (streamB s a) (chanceB p q 20) (expM s p q a)

set_option maxRecDepth 100000 in
set_option maxHeartbeats 2000000 in
theorem implExpCoin_law (s a p q : Int) (w : World) :
    Calls Try.prog 9 #[.agg #[.int .i64 s, .int .i64 a], .agg #[.int .i64 p, .int .i64 q]] w fun e w' => e = .returned (.tuple #[.bool (oVb (expR s a p q)), .agg #[.int .i64 (oS s (expR s a p q)), .int .i64 (oA (expR s a p q))], .bool (oB (expR s a p q))]) ∧ Below w.heap.size w w' := by
  obtain ⟨b0, x2, x3, x5⟩ := box_three w #[.int .i64 s, .int .i64 a] #[.int .i64 p, .int .i64 q] #[.int .i64 0, .int .i64 0] 25 27 25
  go_enter Try.func9, Try.ntmps9
  go_wp2_with fail
  generalize ((w.alloc (.cells #[.int .i64 s, .int .i64 a] 25)).alloc (.cells #[.int .i64 p, .int .i64 q] 27)).alloc (.cells #[.int .i64 0, .int .i64 0] 25) = w0 at *
  refine (implIsStream_any _ _ _).mono ?_
  rintro e w1 ⟨rfl, b1⟩
  replace x2 := box_below x2 b1
  replace x3 := box_below x3 b1
  replace x5 := box_below x5 b1
  replace b1 := b0.trans (b1.mono b0.size)
  clear b0
  have c0 := box_cell x2 0 _ rfl
  have c1 := box_cell x2 1 _ rfl
  have g0 := box_cell x3 0 _ rfl
  have g1 := box_cell x3 1 _ rfl
  have d0 := box_cell x5 0 _ rfl
  have d1 := box_cell x5 1 _ rfl
  have f0 := box_free x5 0
  have f1 := box_free x5 1
  have h5 := lt_of_block x5
  have hs1 := b1.size
  have H1 := Lib.hid (gR_1 (b := streamB s a) (c := chanceB p q 20) (m := expM s p q a))
  have H2 := Lib.hid (gR_2 (b := streamB s a) (c := chanceB p q 20) (m := expM s p q a))
  have H3 := Lib.hid (gR_3 (b := streamB s a) (c := chanceB p q 20) (m := expM s p q a))
  cases hB : streamB s a
  · have R := Lib.hid (H1.out hB)
    clear hB H1 H2 H3
    have y5 := store_two x5 (.int .i64 0) (.int .i64 0)
    have e0 := box_cell y5 0 _ rfl
    have e1 := box_cell y5 1 _ rfl
    go_wp2
    refine bodyPost_ret (v := .tuple #[.bool false, .agg #[.int .i64 0, .int .i64 0], .bool false]) (by simp [results, Try.results9, go_sem, e0, e1]) rfl ⟨tripb_no R.out, below_two b1 (by omega)⟩
  · go_wp2_with fail
    refine (isFrac_any _ _ _).mono ?_
    rintro e w2 ⟨rfl, b2⟩
    clear c0 c1 d0 d1 f0 f1 g0 g1
    replace x2 := box_below x2 b2
    replace x3 := box_below x3 b2
    replace x5 := box_below x5 b2
    replace b2 := b1.trans (b2.mono b1.size)
    clear b1
    have c0 := box_cell x2 0 _ rfl
    have c1 := box_cell x2 1 _ rfl
    have g0 := box_cell x3 0 _ rfl
    have g1 := box_cell x3 1 _ rfl
    have d0 := box_cell x5 0 _ rfl
    have d1 := box_cell x5 1 _ rfl
    have f0 := box_free x5 0
    have f1 := box_free x5 1
    cases hF : fracB p q
    · have R := Lib.hid (H2.out (chanceB_1 (most := 20) hF))
      clear hB H1 H2 H3
      have y5 := store_two x5 (.int .i64 0) (.int .i64 0)
      have e0 := box_cell y5 0 _ rfl
      have e1 := box_cell y5 1 _ rfl
      go_wp2
      refine bodyPost_ret (v := .tuple #[.bool false, .agg #[.int .i64 0, .int .i64 0], .bool false]) (by simp [results, Try.results9, go_sem, e0, e1]) rfl ⟨tripb_no R.out, below_two b2 (by omega)⟩
    · have hff := fracB_of hF
      have hq0 := hff.1
      have hq1 := hff.2.1
      clear hff
      by_cases hp0 : 0 ≤ p
      · by_cases hp1 : p ≤ 20 * q
        · have hC := chanceB_4 (most := 20) hF hp0 hp1
          have R := Lib.hid (H3.out hB hC)
          have ha := streamB_of hB
          have ha0 := ha.1
          have ha1 := ha.2
          have hcf := chanceB_of hC
          have hf := fracB_of hcf.1
          have hq0 := hf.1
          have hq1 := hf.2.1
          have hp0 := hcf.2.1
          have hsm := sm_of hf.2.2.1 hf.2.2.2.1
          clear hf
          clear hB hC H1 H2 H3 ha
          have hs2 := b2.size
          have h6 := lt_of_block x5
          go_wp2_with fail
          refine (expCoin_any w.heap.size s a p q _ x2 ha0 ha1 hsm hp0 hq0 hq1).mono ?_
          rintro e w4 ⟨hyes, hno, hc⟩
          replace x5 := box_chg x5 hc (.inr (by omega))
          have b4 := hc.below b2 (by omega) b2.size
          have d0 := box_cell x5 0 _ rfl
          have d1 := box_cell x5 1 _ rfl
          have f0 := box_free x5 0
          have f1 := box_free x5 1
          clear b2 hc x2 x3
          cases hM : expM s p q a with
          | none =>
            obtain ⟨z, a2, rfl, hr2⟩ := hno hM
            replace R := Lib.hid (R.out.trans hM)
            have y5 := store_two x5 (.int .i64 0) (.int .i64 0)
            have e0 := box_cell y5 0 _ rfl
            have e1 := box_cell y5 1 _ rfl
            clear hyes hno hM
            go_wp2
            refine bodyPost_ret (v := .tuple #[.bool false, .agg #[.int .i64 0, .int .i64 0], .bool false]) (by simp [results, Try.results9, go_sem, e0, e1]) rfl ⟨tripb_no R.out, below_two b4 (by omega)⟩
          | some r =>
            obtain ⟨v, a2⟩ := r
            obtain ⟨rfl, hr2⟩ := hyes v a2 hM
            have E := Lib.hid (R.out.trans hM)
            have c0 := box_cell hr2 0 _ rfl
            have c1 := box_cell hr2 1 _ rfl
            clear hyes hno hM R
            go_wp2
            have y5 := store_two x5 (.int .i64 s) (.int .i64 a2)
            have e0 := box_cell y5 0 _ rfl
            have e1 := box_cell y5 1 _ rfl
            go_region
            all_goals (try go_wp2)
            all_goals refine bodyPost_ret (v := .tuple #[.bool v, .agg #[.int .i64 s, .int .i64 a2], .bool true]) (by simp [results, Try.results9, go_sem, e0, e1]) rfl ⟨tripb_yes E.out, (below_two b4 (by omega)).drew⟩
        · have R := Lib.hid (H2.out (chanceB_3 (n := p) (d := q) (most := 20) hp1))
          clear hB H1 H2 H3
          have y5 := store_two x5 (.int .i64 0) (.int .i64 0)
          have e0 := box_cell y5 0 _ rfl
          have e1 := box_cell y5 1 _ rfl
          go_wp2
          refine bodyPost_ret (v := .tuple #[.bool false, .agg #[.int .i64 0, .int .i64 0], .bool false]) (by simp [results, Try.results9, go_sem, e0, e1]) rfl ⟨tripb_no R.out, below_two b2 (by omega)⟩
      · have R := Lib.hid (H2.out (chanceB_2 (n := p) (d := q) (most := 20) (by omega)))
        clear hB H1 H2 H3
        have y5 := store_two x5 (.int .i64 0) (.int .i64 0)
        have e0 := box_cell y5 0 _ rfl
        have e1 := box_cell y5 1 _ rfl
        go_wp2
        refine bodyPost_ret (v := .tuple #[.bool false, .agg #[.int .i64 0, .int .i64 0], .bool false]) (by simp [results, Try.results9, go_sem, e0, e1]) rfl ⟨tripb_no R.out, below_two b2 (by omega)⟩

set_option maxRecDepth 100000 in
set_option maxHeartbeats 2000000 in
theorem specExpCoin_law (s a p q : Int) (w : World) :
    Calls Try.prog 10 #[.agg #[.int .i64 s, .int .i64 a], .agg #[.int .i64 p, .int .i64 q]] w fun e w' => e = .returned (.tuple #[.bool (oVb (expR s a p q)), .agg #[.int .i64 (oS s (expR s a p q)), .int .i64 (oA (expR s a p q))], .bool (oB (expR s a p q))]) ∧ Below w.heap.size w w' := by
  obtain ⟨b0, x2, x3, x5⟩ := box_three w #[.int .i64 s, .int .i64 a] #[.int .i64 p, .int .i64 q] #[.int .i64 0, .int .i64 0] 25 27 25
  go_enter Try.func10, Try.ntmps10
  go_wp2_with fail
  generalize ((w.alloc (.cells #[.int .i64 s, .int .i64 a] 25)).alloc (.cells #[.int .i64 p, .int .i64 q] 27)).alloc (.cells #[.int .i64 0, .int .i64 0] 25) = w0 at *
  refine (kGood_any _ _ _).mono ?_
  rintro e w1 ⟨rfl, b1⟩
  replace x2 := box_below x2 b1
  replace x3 := box_below x3 b1
  replace x5 := box_below x5 b1
  replace b1 := b0.trans (b1.mono b0.size)
  clear b0
  have c0 := box_cell x2 0 _ rfl
  have c1 := box_cell x2 1 _ rfl
  have g0 := box_cell x3 0 _ rfl
  have g1 := box_cell x3 1 _ rfl
  have d0 := box_cell x5 0 _ rfl
  have d1 := box_cell x5 1 _ rfl
  have f0 := box_free x5 0
  have f1 := box_free x5 1
  have h5 := lt_of_block x5
  have hs1 := b1.size
  have H1 := Lib.hid (gR_1 (b := streamB s a) (c := chanceB p q 20) (m := expM s p q a))
  have H2 := Lib.hid (gR_2 (b := streamB s a) (c := chanceB p q 20) (m := expM s p q a))
  have H3 := Lib.hid (gR_3 (b := streamB s a) (c := chanceB p q 20) (m := expM s p q a))
  cases hB : streamB s a
  · have R := Lib.hid (H1.out hB)
    clear hB H1 H2 H3
    have y5 := store_two x5 (.int .i64 0) (.int .i64 0)
    have e0 := box_cell y5 0 _ rfl
    have e1 := box_cell y5 1 _ rfl
    go_wp2
    refine bodyPost_ret (v := .tuple #[.bool false, .agg #[.int .i64 0, .int .i64 0], .bool false]) (by simp [results, Try.results10, go_sem, e0, e1]) rfl ⟨tripb_no R.out, below_two b1 (by omega)⟩
  · go_wp2_with fail
    refine (kUnit_any _ _ _ _ (sm_of (by omega) (by omega))).mono ?_
    rintro e w2 ⟨rfl, b2⟩
    clear c0 c1 d0 d1 f0 f1 g0 g1
    replace x2 := box_below x2 b2
    replace x3 := box_below x3 b2
    replace x5 := box_below x5 b2
    replace b2 := b1.trans (b2.mono b1.size)
    clear b1
    have c0 := box_cell x2 0 _ rfl
    have c1 := box_cell x2 1 _ rfl
    have g0 := box_cell x3 0 _ rfl
    have g1 := box_cell x3 1 _ rfl
    have d0 := box_cell x5 0 _ rfl
    have d1 := box_cell x5 1 _ rfl
    have f0 := box_free x5 0
    have f1 := box_free x5 1
    cases hC : chanceB p q 20
    · have R := Lib.hid (H2.out hC)
      clear hB hC H1 H2 H3
      have y5 := store_two x5 (.int .i64 0) (.int .i64 0)
      have e0 := box_cell y5 0 _ rfl
      have e1 := box_cell y5 1 _ rfl
      go_wp2
      refine bodyPost_ret (v := .tuple #[.bool false, .agg #[.int .i64 0, .int .i64 0], .bool false]) (by simp [results, Try.results10, go_sem, e0, e1]) rfl ⟨tripb_no R.out, below_two b2 (by omega)⟩
    · have R := Lib.hid (H3.out hB hC)
      have ha := streamB_of hB
      have ha0 := ha.1
      have ha1 := ha.2
      have hcf := chanceB_of hC
      have hf := fracB_of hcf.1
      have hq0 := hf.1
      have hq1 := hf.2.1
      have hp0 := hcf.2.1
      have hsm := sm_of hf.2.2.1 hf.2.2.2.1
      clear hf
      clear hB hC H1 H2 H3 ha
      have hs2 := b2.size
      have h6 := lt_of_block x5
      go_wp2_with fail
      refine (kOpen_any _ _ _).mono ?_
      rintro e w3 ⟨g, rfl, hr, hg, b3⟩
      replace x5 := box_below x5 b3
      replace x3 := box_below x3 b3
      have g0 := box_cell x3 0 _ rfl
      have g1 := box_cell x3 1 _ rfl
      replace b3 := b2.trans (b3.mono b2.size)
      have hs3 := b3.size
      clear b2 x2
      go_wp2_with fail
      refine (kexp_any g s a p q _ hr ha0 ha1 hcf.1 hp0).mono ?_
      rintro e w4 ⟨hyes, hno, hc⟩
      replace x5 := box_chg x5 hc (.inl (by omega))
      have b4 := hc.below b3 (by omega) b3.size
      clear b3 hr hc x3 g0 g1
      cases hM : expM s p q a with
      | none =>
        obtain ⟨z, rfl, a2, hr2, _, _⟩ := hno hM
        replace R := Lib.hid (R.out.trans hM)
        clear hyes hno hM
        go_wp2_with fail
        refine (kTruth_no _ _ _ _ _ hr2).mono ?_
        rintro e w5 ⟨rfl, b5⟩
        replace x5 := box_below x5 b5
        replace b5 := b4.trans (b5.mono b4.size)
        have d0 := box_cell x5 0 _ rfl
        have d1 := box_cell x5 1 _ rfl
        have f0 := box_free x5 0
        have f1 := box_free x5 1
        have y5 := store_two x5 (.int .i64 0) (.int .i64 0)
        have e0 := box_cell y5 0 _ rfl
        have e1 := box_cell y5 1 _ rfl
        clear hr2 b4
        go_wp2
        refine bodyPost_ret (v := .tuple #[.bool false, .agg #[.int .i64 0, .int .i64 0], .bool false]) (by simp [results, Try.results10, go_sem, e0, e1]) rfl ⟨tripb_no R.out, below_two b5 (by omega)⟩
      | some r =>
        obtain ⟨v, a2⟩ := r
        obtain ⟨rfl, hr2⟩ := hyes v a2 hM
        have E := Lib.hid (R.out.trans hM)
        clear hyes hno hM R
        go_wp2_with fail
        refine (kTruth_yes _ _ _ _ _ hr2).mono ?_
        rintro e w5 ⟨rfl, b5⟩
        replace x5 := box_below x5 b5
        replace b5 := b4.trans (b5.mono b4.size)
        have d0 := box_cell x5 0 _ rfl
        have d1 := box_cell x5 1 _ rfl
        have f0 := box_free x5 0
        have f1 := box_free x5 1
        have y5 := store_two x5 (.int .i64 s) (.int .i64 a2)
        have e0 := box_cell y5 0 _ rfl
        have e1 := box_cell y5 1 _ rfl
        clear hr2 b4
        go_wp2
        refine bodyPost_ret (v := .tuple #[.bool v, .agg #[.int .i64 s, .int .i64 a2], .bool true]) (by simp [results, Try.results10, go_sem, e0, e1]) rfl ⟨tripb_yes E.out, (below_two b5 (by omega))⟩
end Go.Proofs.Ytgfihfmlofgopaa
