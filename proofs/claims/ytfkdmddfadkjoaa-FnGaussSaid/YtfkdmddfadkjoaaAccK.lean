/- The exponent of the coin that accepts Gaussian noise: the reference's walk. -/
import Derived.Test.YtfkdmddfadkjoaaAccX
namespace Go.Proofs.Ytfkdmddfadkjoaa
open Go.RowKit

theorem scaleM_bd {p q : Int} (h : sigmaB p q = true) : 1 ≤ scaleM p q ∧ scaleM p q ≤ 101 := by
  obtain ⟨hf, h0, h1⟩ := sigmaB_of h
  have hq := (fracB_of hf).1
  unfold scaleM
  cases hc : (List.range 102).find? (fun t : Nat => decide (1 ≤ t) && decide (p < (t : Int) * t * q)) with
  | none =>
    rw [List.find?_eq_none] at hc
    have := hc 101 (by simp)
    simp at this
    omega
  | some t =>
    have h2 := List.find?_some hc
    have h3 := List.mem_of_find?_eq_some hc
    simp at h2 h3 ⊢
    omega
theorem sm_zero : sm 0 := sm_of (by omega) (by omega)
theorem redO_sm (n d : Int) : sm (fN (redO n d)) ∧ sm (fD (redO n d)) := by
  cases h : redO n d with
  | none => exact ⟨sm_of (by show -1000000000 ≤ (0 : Int); omega) (by show (0 : Int) ≤ 1000000000; omega), sm_of (by show -1000000000 ≤ (0 : Int); omega) (by show (0 : Int) ≤ 1000000000; omega)⟩
  | some r =>
    obtain ⟨p, q⟩ := r
    have := fracB_of (redO_frac h)
    exact ⟨sm_of (by show -1000000000 ≤ p; omega) (by show p ≤ 1000000000; omega), sm_of (by show -1000000000 ≤ q; omega) (by show q ≤ 1000000000; omega)⟩

set_option maxRecDepth 100000 in
set_option maxHeartbeats 4000000 in
theorem yAccept_any (p q y : Int) (w : World) (h : sigmaB p q = true) (hy : sm y) :
    Calls Try.prog 139 #[.agg #[.int .i64 p, .int .i64 q], .int .i64 y] w fun e w' => e = .returned (.tuple #[.agg #[.int .i64 (fN (accM p q y)), .int .i64 (fD (accM p q y))], .bool (fB (accM p q y))]) ∧ Below w.heap.size w w' := by
  have HS := Lib.hid h
  have hs := sigmaB_of h
  have hf := fracB_of hs.1
  have HF := Lib.hid hs.1
  have hp1 : 1 ≤ p := hs.2.1
  have hp2 := hf.2.2.2.1
  have hq1 := hf.1
  have hq2 := hf.2.1
  have HY := Lib.hid (frac_int (absI_sm hy))
  have hy0 := sm_lo hy
  have hy1 := sm_hi hy
  clear h hs hf
  have A1 := Lib.hid (accM_1 (p := p) (q := q) (y := y))
  have A2 := Lib.hid (fun m n => accM_2 (p := p) (q := q) (y := y) (m := m) (n := n))
  have A3 := Lib.hid (fun m n u v => accM_3 (p := p) (q := q) (y := y) (m := m) (n := n) (u := u) (v := v))
  have A4 := Lib.hid (fun m n u v a b => accM_4 (p := p) (q := q) (y := y) (m := m) (n := n) (u := u) (v := v) (a := a) (b := b))
  have HR4 := Lib.hid (fun m n u v a b (h1 : divO p q (scaleM p q : Nat) 1 = some (m, n)) (h2 : subO (absI y) 1 m n = some (u, v)) (h3 : mulO u v u v = some (a, b)) => acc_ref HS.out h1 h2 h3)
  have HSc := Lib.hid (fun w => show Calls Try.prog 141 #[.agg #[.int .i64 p, .int .i64 q]] w (fun e w' => e = .returned (.int .i64 (scaleM p q : Nat)) ∧ Below w.heap.size w w') from (yScale_any p q w HS.out).mono fun _ _ ⟨h1, _, _, h2⟩ => ⟨h1, h2⟩)
  have HAb : Hid (∀ w : World, Calls Try.prog 162 #[.int .i64 y] w fun e w' => e = .returned (.int .i64 (absI y)) ∧ Below w.heap.size w w') := Lib.hid fun w => (l1Abs_any y w (by omega) (by omega)).mono fun _ _ ⟨h1, h2⟩ => ⟨h1, h2 ▸ Below.refl _ _⟩
  have hts := scaleM_bd HS.out
  obtain ⟨b0, x2, x4⟩ := box_two w #[.int .i64 p, .int .i64 q] #[.int .i64 0, .int .i64 0] 28 28
  generalize scaleM p q = t at *
  generalize accM p q y = R at *
  have ht1 := hts.1
  have ht2 := hts.2
  have hps : sm p := sm_of (by omega) (by omega)
  have hqs : sm q := sm_of (by omega) (by omega)
  have htt : sm (t : Int) := sm_of (by omega) (by omega)
  have hab := absI_sm hy
  have h2s : sm 2 := sm_of (by omega) (by omega)
  clear hts
  go_enter Try.func139, Try.ntmps139
  go_wp2_with fail
  generalize (w.alloc (.cells #[.int .i64 p, .int .i64 q] 28)).alloc (.cells #[.int .i64 0, .int .i64 0] 28) = w0 at *
  have x2l := lt_of_block x2
  have x2c0 := box_cell x2 0 _ rfl
  have x2c1 := box_cell x2 1 _ rfl
  go_wp2
  clear x2c0 x2c1 x2l
  go_cut [6, 7] (fun v6 v7 wx => ∃ gp, v6 = .pointer (some ⟨gp, 0, none⟩) ∧ v7 = .bool (fB (divO p q (t : Int) 1)) ∧ wx.heap[gp]? = some (.cells #[.int .i64 (fN (divO p q (t : Int) 1)), .int .i64 (fD (divO p q (t : Int) 1))] 28 (0, 0)) ∧ w0.heap.size ≤ gp ∧ Below w0.heap.size w0 wx)
  case first =>
    have B90 := (Below.refl w0.heap.size w0).drew
    have x2k90 : w0.drew.heap[w.heap.size]? = _ := x2
    have ltx2 := lt_of_block x2
    go_region_held3 (fun w' => w'.cell? ⟨w.heap.size, 0, none⟩ = some (.int .i64 p) ∧ w'.cell? ⟨w.heap.size, 1, none⟩ = some (.int .i64 q)) (first | exact ⟨x2c093, x2c193⟩ | exact ⟨x2c092, x2c192⟩ | exact ⟨x2c091, x2c191⟩ | exact ⟨box_cell x2k90 0 _ rfl, box_cell x2k90 1 _ rfl⟩ | exact ⟨cell_new (box_cell x2k90 0 _ rfl), cell_new (box_cell x2k90 1 _ rfl)⟩ | exact ⟨cell_two x2c093 (by omega), cell_two x2c193 (by omega)⟩ | exact ⟨cell_new x2c093, cell_new x2c193⟩ | go_keep) (first
          | (go_at_call 141; refine (HSc.out _).mono ?_; rintro e w91 ⟨rfl, b91⟩; (first | (have B91 := keepB B90 (Nat.le_refl _) b91; have x2k91 := box_below x2k90 b91; (first | (have G91 := box_below G90.1 b91; have G91 := And.intro G91 G90.2) | skip)) | (have b91 : Below (w0.drew.alloc (.cells #[.int .i64 0, .int .i64 0] 28)).heap.size (w0.drew.alloc (.cells #[.int .i64 0, .int .i64 0] 28)) w91 := b91; have B91 := keepBN B90 (Nat.le_refl _) b91; have x2k91 := keepN x2k90 b91; have G91 : w91.heap[w0.heap.size]? = _ ∧ w0.heap.size ≤ w0.heap.size := newAt (a := World.drew w0) B90 (Nat.le_refl _) b91)); have x2c091 := box_cell x2k91 0 _ rfl; have x2c191 := box_cell x2k91 1 _ rfl; (first | (have l91 := G91.2; have d0 := box_cell G91.1 0 _ rfl; have d1 := box_cell G91.1 1 _ rfl; have f0 := box_free G91.1 0; have f1 := box_free G91.1 1) | skip))
          | (go_at_call 122; refine (fInt_any _ _).mono ?_; rintro e w92 ⟨rfl, b92⟩; (first | (have B92 := keepB B91 (Nat.le_refl _) b92; have x2k92 := box_below x2k91 b92; (first | (have G92 := box_below G91.1 b92; have G92 := And.intro G92 G91.2) | skip)) | (have B92 := keepBN B91 (Nat.le_refl _) b92; have x2k92 := keepN x2k91 b92; have G92 := newAt B91 (Nat.le_refl _) b92)); have x2c092 := box_cell x2k92 0 _ rfl; have x2c192 := box_cell x2k92 1 _ rfl; (first | (have l92 := G92.2; have d0 := box_cell G92.1 0 _ rfl; have d1 := box_cell G92.1 1 _ rfl; have f0 := box_free G92.1 0; have f1 := box_free G92.1 1) | skip))
          | (go_at_call 128; refine (fDiv_any _ _ _ _ _ hps hqs htt sm_one).mono ?_; rintro e w93 ⟨rfl, b93⟩; (first | (have B93 := keepB B92 (Nat.le_refl _) b93; have x2k93 := box_below x2k92 b93; (first | (have G93 := box_below G92.1 b93; have G93 := And.intro G93 G92.2) | skip)) | (have B93 := keepBN B92 (Nat.le_refl _) b93; have x2k93 := keepN x2k92 b93; have G93 := newAt B92 (Nat.le_refl _) b93)); have x2c093 := box_cell x2k93 0 _ rfl; have x2c193 := box_cell x2k93 1 _ rfl; (first | (have l93 := G93.2; have d0 := box_cell G93.1 0 _ rfl; have d1 := box_cell G93.1 1 _ rfl; have f0 := box_free G93.1 0; have f1 := box_free G93.1 1) | skip)))
    all_goals (go_wp2_with fail; go_meet; first | exact ⟨_, rfl, rfl, store_two G93.1 _ _, G93.2, below_two B93 G93.2⟩ | exact ⟨_, rfl, rfl, box_new _ _ _, B93.size, keepB B93 (Nat.le_refl _) (below_new _ _)⟩)
  case rest =>
    obtain ⟨gx6, rfl, rfl, x6, hgx6, c1⟩ := hcut
    generalize wc = w1 at *
    replace x2 := box_below x2 c1
    replace x4 := box_below x4 c1
    have b1 := b0.trans (c1.mono b0.size)
    have s0 := b0.size
    clear c1 b0
    have x4l := lt_of_block x4
    have x4c0 := box_cell x4 0 _ rfl
    have x4c1 := box_cell x4 1 _ rfl
    have x4f0 := box_free x4 0
    have x4f1 := box_free x4 1
    cases hM : divO p q (t : Int) 1 with
    | none =>
      rw [hM] at x6
      simp only [fN, fD, fB] at x6 ⊢
      have E := Lib.hid (A1.out hM)
      clear hM
      have y4 := store_two x4 (.int .i64 0) (.int .i64 0)
      have e0 := box_cell y4 0 _ rfl
      have e1 := box_cell y4 1 _ rfl
      have z1 := b1.size
      go_wp2
      refine bodyPost_ret (v := .tuple #[.agg #[.int .i64 0, .int .i64 0], .bool false]) (by simp [results, Try.results139, go_sem, e0, e1]) rfl ⟨fr_no E.out, below_two b1 (by omega)⟩
    | some r =>
      obtain ⟨m, n⟩ := r
      rw [hM] at x6
      simp only [fN, fD, fB] at x6 ⊢
      have HM := Lib.hid hM
      clear hM
      have hmf := fracB_sm (divO_frac HM.out)
      have hm1 := hmf.1
      have hm2 := hmf.2.1
      clear hmf
      clear x4c0 x4c1 x4f0 x4f1 x4l
      have x6l := lt_of_block x6
      have x6c0 := box_cell x6 0 _ rfl
      have x6c1 := box_cell x6 1 _ rfl
      go_wp2
      clear x6c0 x6c1 x6l
      go_cut [8, 9] (fun v8 v9 wx => ∃ gp, v8 = .pointer (some ⟨gp, 0, none⟩) ∧ v9 = .bool (fB (subO (absI y) 1 m n)) ∧ wx.heap[gp]? = some (.cells #[.int .i64 (fN (subO (absI y) 1 m n)), .int .i64 (fD (subO (absI y) 1 m n))] 28 (0, 0)) ∧ w1.heap.size ≤ gp ∧ Below w1.heap.size w1 wx)
      case first =>
        have B90 := (Below.refl w1.heap.size w1).drew
        have x6k90 : w1.drew.heap[gx6]? = _ := x6
        have ltx6 := lt_of_block x6
        go_region_held3 (fun w' => w'.cell? ⟨gx6, 0, none⟩ = some (.int .i64 m) ∧ w'.cell? ⟨gx6, 1, none⟩ = some (.int .i64 n)) (first | exact ⟨x6c093, x6c193⟩ | exact ⟨x6c092, x6c192⟩ | exact ⟨x6c091, x6c191⟩ | exact ⟨box_cell x6k90 0 _ rfl, box_cell x6k90 1 _ rfl⟩ | exact ⟨cell_new (box_cell x6k90 0 _ rfl), cell_new (box_cell x6k90 1 _ rfl)⟩ | exact ⟨cell_two x6c093 (by omega), cell_two x6c193 (by omega)⟩ | exact ⟨cell_new x6c093, cell_new x6c193⟩ | go_keep) (first
              | (go_at_call 162; refine (HAb.out _).mono ?_; rintro e w91 ⟨rfl, b91⟩; (first | (have B91 := keepB B90 (Nat.le_refl _) b91; have x6k91 := box_below x6k90 b91; (first | (have G91 := box_below G90.1 b91; have G91 := And.intro G91 G90.2) | skip)) | (have b91 : Below (w1.drew.alloc (.cells #[.int .i64 0, .int .i64 0] 28)).heap.size (w1.drew.alloc (.cells #[.int .i64 0, .int .i64 0] 28)) w91 := b91; have B91 := keepBN B90 (Nat.le_refl _) b91; have x6k91 := keepN x6k90 b91; have G91 : w91.heap[w1.heap.size]? = _ ∧ w1.heap.size ≤ w1.heap.size := newAt (a := World.drew w1) B90 (Nat.le_refl _) b91)); have x6c091 := box_cell x6k91 0 _ rfl; have x6c191 := box_cell x6k91 1 _ rfl; (first | (have l91 := G91.2; have d0 := box_cell G91.1 0 _ rfl; have d1 := box_cell G91.1 1 _ rfl; have f0 := box_free G91.1 0; have f1 := box_free G91.1 1) | skip))
              | (go_at_call 122; refine (fInt_any _ _).mono ?_; rintro e w92 ⟨rfl, b92⟩; (first | (have B92 := keepB B91 (Nat.le_refl _) b92; have x6k92 := box_below x6k91 b92; (first | (have G92 := box_below G91.1 b92; have G92 := And.intro G92 G91.2) | skip)) | (have B92 := keepBN B91 (Nat.le_refl _) b92; have x6k92 := keepN x6k91 b92; have G92 := newAt B91 (Nat.le_refl _) b92)); have x6c092 := box_cell x6k92 0 _ rfl; have x6c192 := box_cell x6k92 1 _ rfl; (first | (have l92 := G92.2; have d0 := box_cell G92.1 0 _ rfl; have d1 := box_cell G92.1 1 _ rfl; have f0 := box_free G92.1 0; have f1 := box_free G92.1 1) | skip))
              | (go_at_call 121; refine (fSub_o _ _ _ _ _ hab sm_one hm1 hm2).mono ?_; rintro e w93 ⟨rfl, b93⟩; (first | (have B93 := keepB B92 (Nat.le_refl _) b93; have x6k93 := box_below x6k92 b93; (first | (have G93 := box_below G92.1 b93; have G93 := And.intro G93 G92.2) | skip)) | (have B93 := keepBN B92 (Nat.le_refl _) b93; have x6k93 := keepN x6k92 b93; have G93 := newAt B92 (Nat.le_refl _) b93)); have x6c093 := box_cell x6k93 0 _ rfl; have x6c193 := box_cell x6k93 1 _ rfl; (first | (have l93 := G93.2; have d0 := box_cell G93.1 0 _ rfl; have d1 := box_cell G93.1 1 _ rfl; have f0 := box_free G93.1 0; have f1 := box_free G93.1 1) | skip)))
        all_goals (go_wp2_with fail; go_meet; first | exact ⟨_, rfl, rfl, store_two G93.1 _ _, G93.2, below_two B93 G93.2⟩ | exact ⟨_, rfl, rfl, box_new _ _ _, B93.size, keepB B93 (Nat.le_refl _) (below_new _ _)⟩)
      case rest =>
        obtain ⟨gx8, rfl, rfl, x8, hgx8, c2⟩ := hcut
        generalize wc = w2 at *
        replace x2 := box_below x2 c2
        replace x4 := box_below x4 c2
        replace x6 := box_below x6 c2
        have b2 := b1.trans (c2.mono b1.size)
        have s1 := b1.size
        clear c2 b1
        have x4l := lt_of_block x4
        have x4c0 := box_cell x4 0 _ rfl
        have x4c1 := box_cell x4 1 _ rfl
        have x2l := lt_of_block x2
        have x2c0 := box_cell x2 0 _ rfl
        have x2c1 := box_cell x2 1 _ rfl
        have x4f0 := box_free x4 0
        have x4f1 := box_free x4 1
        cases hM : subO (absI y) 1 m n with
        | none =>
          rw [hM] at x8
          simp only [fN, fD, fB] at x8 ⊢
          have E := Lib.hid (A2.out _ _ HM.out hM)
          clear hM
          have ez : Hid (mulO 0 0 0 0 = none) := Lib.hid (redO_zero _)
          have x8l := lt_of_block x8
          have x8c0 := box_cell x8 0 _ rfl
          have x8c1 := box_cell x8 1 _ rfl
          go_wp2_with fail
          refine (fMul_o _ _ _ _ _ sm_zero sm_zero sm_zero sm_zero).mono ?_
          rintro e w3 ⟨rfl, b3⟩
          clear x2c0 x2c1 x2l x4c0 x4c1 x4f0 x4f1 x4l x8c0 x8c1 x8l
          replace x2 := box_below x2 b3
          replace x4 := box_below x4 b3
          replace x6 := box_below x6 b3
          replace x8 := box_below x8 b3
          replace b3 := b2.trans (b3.mono b2.size)
          clear b2
          have x4l := lt_of_block x4
          have x4c0 := box_cell x4 0 _ rfl
          have x4c1 := box_cell x4 1 _ rfl
          have x4f0 := box_free x4 0
          have x4f1 := box_free x4 1
          rw [ez.out]
          simp only [fN, fD, fB]
          have y4 := store_two x4 (.int .i64 0) (.int .i64 0)
          have y40 := box_below y4 (below_new _ (.cells #[.int .i64 0, .int .i64 0] 28))
          have e0 := box_cell y40 0 _ rfl
          have e1 := box_cell y40 1 _ rfl
          have z3 := b3.size
          go_wp2
          refine bodyPost_ret (v := .tuple #[.agg #[.int .i64 0, .int .i64 0], .bool false]) (by simp [results, Try.results139, go_sem, e0, e1]) rfl ⟨fr_no E.out, (below_two b3 (by omega)).alloc (by simp; omega) _⟩
        | some r =>
          obtain ⟨u, v⟩ := r
          rw [hM] at x8
          simp only [fN, fD, fB] at x8 ⊢
          have HD := Lib.hid hM
          clear hM
          have hdf := fracB_sm (redO_frac HD.out)
          have hd1 := hdf.1
          have hd2 := hdf.2.1
          have hd3 := hdf.2.2
          clear hdf
          have x8l := lt_of_block x8
          have x8c0 := box_cell x8 0 _ rfl
          have x8c1 := box_cell x8 1 _ rfl
          go_wp2_with fail
          refine (fMul_o _ _ _ _ _ hd1 hd2 hd1 hd2).mono ?_
          rintro e w3 ⟨rfl, b3⟩
          clear x2c0 x2c1 x2l x4c0 x4c1 x4f0 x4f1 x4l x8c0 x8c1 x8l
          replace x2 := box_below x2 b3
          replace x4 := box_below x4 b3
          replace x6 := box_below x6 b3
          replace x8 := box_below x8 b3
          replace b3 := b2.trans (b3.mono b2.size)
          clear b2
          have x4l := lt_of_block x4
          have x4c0 := box_cell x4 0 _ rfl
          have x4c1 := box_cell x4 1 _ rfl
          have x2l := lt_of_block x2
          have x2c0 := box_cell x2 0 _ rfl
          have x2c1 := box_cell x2 1 _ rfl
          have x4f0 := box_free x4 0
          have x4f1 := box_free x4 1
          cases hM : mulO u v u v with
          | none =>
            simp only [fN, fD, fB]
            have E := Lib.hid (A3.out _ _ _ _ HM.out HD.out hM)
            clear hM
            have y4 := store_two x4 (.int .i64 0) (.int .i64 0)
            have y40 := box_below y4 (below_new _ (.cells #[.int .i64 0, .int .i64 0] 28))
            have e0 := box_cell y40 0 _ rfl
            have e1 := box_cell y40 1 _ rfl
            have z3 := b3.size
            go_wp2
            refine bodyPost_ret (v := .tuple #[.agg #[.int .i64 0, .int .i64 0], .bool false]) (by simp [results, Try.results139, go_sem, e0, e1]) rfl ⟨fr_no E.out, (below_two b3 (by omega)).alloc (by simp; omega) _⟩
          | some r =>
            obtain ⟨a, b⟩ := r
            simp only [fN, fD, fB]
            have HQ := Lib.hid hM
            clear hM
            have hqf := fracB_sm (redO_frac HQ.out)
            have hq5 := hqf.1
            have hq6 := hqf.2.1
            clear hqf
            go_wp2
            clear x2c0 x2c1 x2l x4c0 x4c1 x4f0 x4f1 x4l
            have x10 := box_new w3 #[.int .i64 a, .int .i64 b] 28
            replace x2 := box_below x2 (below_new w3 (.cells #[.int .i64 a, .int .i64 b] 28))
            replace x4 := box_below x4 (below_new w3 (.cells #[.int .i64 a, .int .i64 b] 28))
            replace x6 := box_below x6 (below_new w3 (.cells #[.int .i64 a, .int .i64 b] 28))
            replace x8 := box_below x8 (below_new w3 (.cells #[.int .i64 a, .int .i64 b] 28))
            have b4 := b3.trans ((below_new w3 (.cells #[.int .i64 a, .int .i64 b] 28)).mono b3.size)
            have s3 := b3.size
            clear b3
            generalize w3.alloc (.cells #[.int .i64 a, .int .i64 b] 28) = w4 at *
            have x2l := lt_of_block x2
            have x2c0 := box_cell x2 0 _ rfl
            have x2c1 := box_cell x2 1 _ rfl
            go_wp2
            clear x2c0 x2c1 x2l
            go_cut [12, 13] (fun v12 v13 wx => ∃ gp, v12 = .pointer (some ⟨gp, 0, none⟩) ∧ v13 = .bool (fB (mulO p q 2 1)) ∧ wx.heap[gp]? = some (.cells #[.int .i64 (fN (mulO p q 2 1)), .int .i64 (fD (mulO p q 2 1))] 28 (0, 0)) ∧ w4.heap.size ≤ gp ∧ Below w4.heap.size w4 wx)
            case first =>
              have B90 := (Below.refl w4.heap.size w4).drew
              have x2k90 : w4.drew.heap[w.heap.size]? = _ := x2
              have ltx2 := lt_of_block x2
              go_region_held3 (fun w' => w'.cell? ⟨w.heap.size, 0, none⟩ = some (.int .i64 p) ∧ w'.cell? ⟨w.heap.size, 1, none⟩ = some (.int .i64 q)) (first | exact ⟨x2c092, x2c192⟩ | exact ⟨x2c091, x2c191⟩ | exact ⟨box_cell x2k90 0 _ rfl, box_cell x2k90 1 _ rfl⟩ | exact ⟨cell_new (box_cell x2k90 0 _ rfl), cell_new (box_cell x2k90 1 _ rfl)⟩ | exact ⟨cell_two x2c092 (by omega), cell_two x2c192 (by omega)⟩ | exact ⟨cell_new x2c092, cell_new x2c192⟩ | go_keep) (first
                    | (go_at_call 122; refine (fInt_any _ _).mono ?_; rintro e w91 ⟨rfl, b91⟩; (first | (have B91 := keepB B90 (Nat.le_refl _) b91; have x2k91 := box_below x2k90 b91; (first | (have G91 := box_below G90.1 b91; have G91 := And.intro G91 G90.2) | skip)) | (have b91 : Below (w4.drew.alloc (.cells #[.int .i64 0, .int .i64 0] 28)).heap.size (w4.drew.alloc (.cells #[.int .i64 0, .int .i64 0] 28)) w91 := b91; have B91 := keepBN B90 (Nat.le_refl _) b91; have x2k91 := keepN x2k90 b91; have G91 : w91.heap[w4.heap.size]? = _ ∧ w4.heap.size ≤ w4.heap.size := newAt (a := World.drew w4) B90 (Nat.le_refl _) b91)); have x2c091 := box_cell x2k91 0 _ rfl; have x2c191 := box_cell x2k91 1 _ rfl; (first | (have l91 := G91.2; have d0 := box_cell G91.1 0 _ rfl; have d1 := box_cell G91.1 1 _ rfl; have f0 := box_free G91.1 0; have f1 := box_free G91.1 1) | skip))
                    | (go_at_call 124; refine (fMul_o _ _ _ _ _ hps hqs h2s sm_one).mono ?_; rintro e w92 ⟨rfl, b92⟩; (first | (have B92 := keepB B91 (Nat.le_refl _) b92; have x2k92 := box_below x2k91 b92; (first | (have G92 := box_below G91.1 b92; have G92 := And.intro G92 G91.2) | skip)) | (have B92 := keepBN B91 (Nat.le_refl _) b92; have x2k92 := keepN x2k91 b92; have G92 := newAt B91 (Nat.le_refl _) b92)); have x2c092 := box_cell x2k92 0 _ rfl; have x2c192 := box_cell x2k92 1 _ rfl; (first | (have l92 := G92.2; have d0 := box_cell G92.1 0 _ rfl; have d1 := box_cell G92.1 1 _ rfl; have f0 := box_free G92.1 0; have f1 := box_free G92.1 1) | skip)))
              all_goals (go_wp2_with fail; go_meet; first | exact ⟨_, rfl, rfl, store_two G92.1 _ _, G92.2, below_two B92 G92.2⟩ | exact ⟨_, rfl, rfl, box_new _ _ _, B92.size, keepB B92 (Nat.le_refl _) (below_new _ _)⟩)
            case rest =>
              obtain ⟨gx12, rfl, rfl, x12, hgx12, c5⟩ := hcut
              generalize wc = w5 at *
              replace x2 := box_below x2 c5
              replace x4 := box_below x4 c5
              replace x6 := box_below x6 c5
              replace x8 := box_below x8 c5
              replace x10 := box_below x10 c5
              have b5 := b4.trans (c5.mono b4.size)
              have s4 := b4.size
              clear c5 b4
              obtain ⟨p', q', hA, hB, hC⟩ := HR4.out _ _ _ _ _ _ HM.out HD.out HQ.out
              have hcf := fracB_sm hC
              have hc1 := hcf.1
              have hc2 := hcf.2.1
              rw [hA] at x12
              rw [hA]
              have HB := Lib.hid hB
              have E := Lib.hid (A4.out _ _ _ _ _ _ HM.out HD.out HQ.out)
              clear hA hB hC hcf
              simp only [fN, fD, fB] at x12 ⊢
              have x10l := lt_of_block x10
              have x10c0 := box_cell x10 0 _ rfl
              have x10c1 := box_cell x10 1 _ rfl
              have x12l := lt_of_block x12
              have x12c0 := box_cell x12 0 _ rfl
              have x12c1 := box_cell x12 1 _ rfl
              have x4l := lt_of_block x4
              have x4c0 := box_cell x4 0 _ rfl
              have x4c1 := box_cell x4 1 _ rfl
              have x4f0 := box_free x4 0
              have x4f1 := box_free x4 1
              go_wp2_with fail
              refine (fDiv_any _ _ _ _ _ hq5 hq6 hc1 hc2).mono ?_
              rintro e w6 ⟨rfl, b6⟩
              clear x10c0 x10c1 x10l x12c0 x12c1 x12l x4c0 x4c1 x4f0 x4f1 x4l
              replace x2 := box_below x2 b6
              replace x4 := box_below x4 b6
              replace x6 := box_below x6 b6
              replace x8 := box_below x8 b6
              replace x10 := box_below x10 b6
              replace x12 := box_below x12 b6
              replace b6 := b5.trans (b6.mono b5.size)
              clear b5
              have x4l := lt_of_block x4
              have x4c0 := box_cell x4 0 _ rfl
              have x4c1 := box_cell x4 1 _ rfl
              have x4f0 := box_free x4 0
              have x4f1 := box_free x4 1
              rw [HB.out, ← E.out]
              have y4 := store_two x4 (.int .i64 (fN R)) (.int .i64 (fD R))
              have e0 := box_cell y4 0 _ rfl
              have e1 := box_cell y4 1 _ rfl
              have z6 := b6.size
              go_wp2
              refine bodyPost_ret (v := .tuple #[.agg #[.int .i64 (fN R), .int .i64 (fD R)], .bool (fB R)]) (by simp [results, Try.results139, go_sem, e0, e1]) rfl ⟨rfl, below_two b6 (by omega)⟩
end Go.Proofs.Ytfkdmddfadkjoaa
