/- LaplaceSample, of the reference and of the program. -/
import Derived.Test.YtfkdmddfadkjoaaCoinOf
import Derived.Test.YtfkdmddfadkjoaaKLap
namespace Go.Proofs.Ytfkdmddfadkjoaa
open Go.RowKit

/-- LaplaceSample's answer. -/
def lapR (s a t : Int) : Option (Int × Int) := gR (streamB s a) (inR t 1 1000) (lapM s t a)

set_option maxRecDepth 100000 in
set_option maxHeartbeats 2000000 in
theorem implLaplaceSample_law (s a t : Int) (w : World) :
    Calls Try.prog 71 #[.agg #[.int .i64 s, .int .i64 a], .int .i64 t] w fun e w' => e = .returned (.tuple #[.int .i64 (oV (lapR s a t)), .agg #[.int .i64 (oS s (lapR s a t)), .int .i64 (oA (lapR s a t))], .bool (oB (lapR s a t))]) ∧ Below w.heap.size w w' := by
  obtain ⟨b0, x2, x5⟩ := box_two w #[.int .i64 s, .int .i64 a] #[.int .i64 0, .int .i64 0] 38 38
  go_enter Try.func71, Try.ntmps71
  go_wp2_with fail
  generalize (w.alloc (.cells #[.int .i64 s, .int .i64 a] 38)).alloc (.cells #[.int .i64 0, .int .i64 0] 38) = w0 at *
  refine (implIsStream_any _ _ _).mono ?_
  rintro e w1 ⟨rfl, b1⟩
  replace x2 := box_below x2 b1
  replace x5 := box_below x5 b1
  replace b1 := b0.trans (b1.mono b0.size)
  clear b0
  have c0 := box_cell x2 0 _ rfl
  have c1 := box_cell x2 1 _ rfl
  have d0 := box_cell x5 0 _ rfl
  have d1 := box_cell x5 1 _ rfl
  have f0 := box_free x5 0
  have f1 := box_free x5 1
  have h5 := lt_of_block x5
  have hs1 := b1.size
  have H1 := Lib.hid (gR_1 (b := streamB s a) (c := inR t 1 1000) (m := lapM s t a))
  have H2 := Lib.hid (gR_2 (b := streamB s a) (c := inR t 1 1000) (m := lapM s t a))
  have H3 := Lib.hid (gR_3 (b := streamB s a) (c := inR t 1 1000) (m := lapM s t a))
  cases hB : streamB s a
  · have R := Lib.hid (H1.out hB)
    clear hB H1 H2 H3
    have y5 := store_two x5 (.int .i64 0) (.int .i64 0)
    have e0 := box_cell y5 0 _ rfl
    have e1 := box_cell y5 1 _ rfl
    go_wp2
    refine bodyPost_ret (v := .tuple #[.int .i64 0, .agg #[.int .i64 0, .int .i64 0], .bool false]) (by simp [results, Try.results71, go_sem, e0, e1]) rfl ⟨trip_no R.out, below_two b1 (by omega)⟩
  · by_cases hn : 1 ≤ t ∧ t ≤ 1000
    · have hC : inR t 1 1000 = true := inR_yes hn.1 hn.2
      have R := Lib.hid (H3.out hB hC)
      have ha := streamB_of hB
      have ha0 := ha.1
      have ha1 := ha.2
      have htt := inR_of hC
      have ht0 := htt.1
      have ht1 := htt.2
      clear htt
      have b2 := b1
      clear hB hC H1 H2 H3 ha b1
      have hs2 := b2.size
      have h6 := lt_of_block x5
      go_wp2_with fail
      refine (laplace_any w.heap.size s a t _ x2 ha0 ha1 ht0 ht1).mono ?_
      rintro e w4 ⟨hyes, hno, hc⟩
      replace x5 := box_chg x5 hc (.inr (by omega))
      have b4 := hc.below b2 (by omega) b2.size
      have d0 := box_cell x5 0 _ rfl
      have d1 := box_cell x5 1 _ rfl
      have f0 := box_free x5 0
      have f1 := box_free x5 1
      clear b2 hc x2
      cases hM : lapM s t a with
      | none =>
        obtain ⟨z, a2, rfl, hr2⟩ := hno hM
        replace R := Lib.hid (R.out.trans hM)
        have y5 := store_two x5 (.int .i64 0) (.int .i64 0)
        have e0 := box_cell y5 0 _ rfl
        have e1 := box_cell y5 1 _ rfl
        clear hyes hno hM
        go_wp2
        refine bodyPost_ret (v := .tuple #[.int .i64 0, .agg #[.int .i64 0, .int .i64 0], .bool false]) (by simp [results, Try.results71, go_sem, e0, e1]) rfl ⟨trip_no R.out, below_two b4 (by omega)⟩
      | some r =>
        obtain ⟨v, a2⟩ := r
        obtain ⟨rfl, hr2⟩ := hyes v a2 hM
        have E := Lib.hid (R.out.trans hM)
        have c0 := box_cell hr2 0 _ rfl
        have c1 := box_cell hr2 1 _ rfl
        clear hyes hno hM R
        go_wp2
        have y5 := store_two x5 (.int .i64 s) (.int .i64 a2)
        have e0 := box_cell y5 0 _ rfl
        have e1 := box_cell y5 1 _ rfl
        go_region
        all_goals (try go_wp2)
        all_goals refine bodyPost_ret (v := .tuple #[.int .i64 v, .agg #[.int .i64 s, .int .i64 a2], .bool true]) (by simp [results, Try.results71, go_sem, e0, e1]) rfl ⟨trip_yes E.out, (below_two b4 (by omega)).drew⟩
    · have hC : inR t 1 1000 = false := inR_no hn
      have R := Lib.hid (H2.out hC)
      clear hB hC H1 H2 H3
      have y5 := store_two x5 (.int .i64 0) (.int .i64 0)
      have e0 := box_cell y5 0 _ rfl
      have e1 := box_cell y5 1 _ rfl
      by_cases h1 : t < 1
      · go_wp2
        refine bodyPost_ret (v := .tuple #[.int .i64 0, .agg #[.int .i64 0, .int .i64 0], .bool false]) (by simp [results, Try.results71, go_sem, e0, e1]) rfl ⟨trip_no R.out, below_two b1 (by omega)⟩
      · have h2 : 1000 < t := by omega
        go_wp2
        refine bodyPost_ret (v := .tuple #[.int .i64 0, .agg #[.int .i64 0, .int .i64 0], .bool false]) (by simp [results, Try.results71, go_sem, e0, e1]) rfl ⟨trip_no R.out, below_two b1 (by omega)⟩

set_option maxRecDepth 100000 in
set_option maxHeartbeats 2000000 in
theorem specLaplaceSample_law (s a t : Int) (w : World) :
    Calls Try.prog 72 #[.agg #[.int .i64 s, .int .i64 a], .int .i64 t] w fun e w' => e = .returned (.tuple #[.int .i64 (oV (lapR s a t)), .agg #[.int .i64 (oS s (lapR s a t)), .int .i64 (oA (lapR s a t))], .bool (oB (lapR s a t))]) ∧ Below w.heap.size w w' := by
  obtain ⟨b0, x2, x5⟩ := box_two w #[.int .i64 s, .int .i64 a] #[.int .i64 0, .int .i64 0] 38 38
  go_enter Try.func72, Try.ntmps72
  go_wp2_with fail
  generalize (w.alloc (.cells #[.int .i64 s, .int .i64 a] 38)).alloc (.cells #[.int .i64 0, .int .i64 0] 38) = w0 at *
  refine (kGood_any _ _ _).mono ?_
  rintro e w1 ⟨rfl, b1⟩
  replace x2 := box_below x2 b1
  replace x5 := box_below x5 b1
  replace b1 := b0.trans (b1.mono b0.size)
  clear b0
  have c0 := box_cell x2 0 _ rfl
  have c1 := box_cell x2 1 _ rfl
  have d0 := box_cell x5 0 _ rfl
  have d1 := box_cell x5 1 _ rfl
  have f0 := box_free x5 0
  have f1 := box_free x5 1
  have h5 := lt_of_block x5
  have hs1 := b1.size
  have H1 := Lib.hid (gR_1 (b := streamB s a) (c := inR t 1 1000) (m := lapM s t a))
  have H2 := Lib.hid (gR_2 (b := streamB s a) (c := inR t 1 1000) (m := lapM s t a))
  have H3 := Lib.hid (gR_3 (b := streamB s a) (c := inR t 1 1000) (m := lapM s t a))
  cases hB : streamB s a
  · have R := Lib.hid (H1.out hB)
    clear hB H1 H2 H3
    have y5 := store_two x5 (.int .i64 0) (.int .i64 0)
    have e0 := box_cell y5 0 _ rfl
    have e1 := box_cell y5 1 _ rfl
    go_wp2
    refine bodyPost_ret (v := .tuple #[.int .i64 0, .agg #[.int .i64 0, .int .i64 0], .bool false]) (by simp [results, Try.results72, go_sem, e0, e1]) rfl ⟨trip_no R.out, below_two b1 (by omega)⟩
  · go_wp2_with fail
    refine (l1In_any _ _ _ _).mono ?_
    rintro e w2 ⟨rfl, rfl⟩
    have b2 := b1
    clear b1
    cases hC : inR t 1 1000
    · have R := Lib.hid (H2.out hC)
      clear hB hC H1 H2 H3
      have y5 := store_two x5 (.int .i64 0) (.int .i64 0)
      have e0 := box_cell y5 0 _ rfl
      have e1 := box_cell y5 1 _ rfl
      go_wp2
      refine bodyPost_ret (v := .tuple #[.int .i64 0, .agg #[.int .i64 0, .int .i64 0], .bool false]) (by simp [results, Try.results72, go_sem, e0, e1]) rfl ⟨trip_no R.out, below_two b2 (by omega)⟩
    · have R := Lib.hid (H3.out hB hC)
      have ha := streamB_of hB
      have ha0 := ha.1
      have ha1 := ha.2
      have htt := inR_of hC
      have ht0 := htt.1
      have ht1 := htt.2
      clear htt
      clear hB hC H1 H2 H3 ha
      have hs2 := b2.size
      have h6 := lt_of_block x5
      go_wp2_with fail
      refine (kOpen_any _ _ _).mono ?_
      rintro e w3 ⟨g, rfl, hr, hg, b3⟩
      replace x5 := box_below x5 b3
      replace b3 := b2.trans (b3.mono b2.size)
      have hs3 := b3.size
      clear b2 x2
      go_wp2_with fail
      refine (klaplace_any g s a t _ hr ha0 ha1 ht0 ht1).mono ?_
      rintro e w4 ⟨hyes, hno, hc⟩
      replace x5 := box_chg x5 hc (.inl (by omega))
      have b4 := hc.below b3 (by omega) b3.size
      clear b3 hr hc
      cases hM : lapM s t a with
      | none =>
        obtain ⟨rfl, a2, hr2, _, _⟩ := hno hM
        replace R := Lib.hid (R.out.trans hM)
        clear hyes hno hM
        go_wp2_with fail
        refine (kNumber_no _ _ _ _ _ hr2).mono ?_
        rintro e w5 ⟨rfl, b5⟩
        replace x5 := box_below x5 b5
        replace b5 := b4.trans (b5.mono b4.size)
        have d0 := box_cell x5 0 _ rfl
        have d1 := box_cell x5 1 _ rfl
        have f0 := box_free x5 0
        have f1 := box_free x5 1
        have y5 := store_two x5 (.int .i64 0) (.int .i64 0)
        have e0 := box_cell y5 0 _ rfl
        have e1 := box_cell y5 1 _ rfl
        clear hr2 b4
        go_wp2
        refine bodyPost_ret (v := .tuple #[.int .i64 0, .agg #[.int .i64 0, .int .i64 0], .bool false]) (by simp [results, Try.results72, go_sem, e0, e1]) rfl ⟨trip_no R.out, below_two b5 (by omega)⟩
      | some r =>
        obtain ⟨v, a2⟩ := r
        obtain ⟨rfl, hr2⟩ := hyes v a2 hM
        have E := Lib.hid (R.out.trans hM)
        clear hyes hno hM R
        go_wp2_with fail
        refine (kNumber_yes _ _ _ _ _ hr2).mono ?_
        rintro e w5 ⟨rfl, b5⟩
        replace x5 := box_below x5 b5
        replace b5 := b4.trans (b5.mono b4.size)
        have d0 := box_cell x5 0 _ rfl
        have d1 := box_cell x5 1 _ rfl
        have f0 := box_free x5 0
        have f1 := box_free x5 1
        have y5 := store_two x5 (.int .i64 s) (.int .i64 a2)
        have e0 := box_cell y5 0 _ rfl
        have e1 := box_cell y5 1 _ rfl
        clear hr2 b4
        go_wp2
        refine bodyPost_ret (v := .tuple #[.int .i64 v, .agg #[.int .i64 s, .int .i64 a2], .bool true]) (by simp [results, Try.results72, go_sem, e0, e1]) rfl ⟨trip_yes E.out, (below_two b5 (by omega))⟩
end Go.Proofs.Ytfkdmddfadkjoaa
