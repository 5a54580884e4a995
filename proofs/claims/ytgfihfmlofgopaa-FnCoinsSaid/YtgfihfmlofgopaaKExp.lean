/- Coins with the chance exp(-x): the reference's. -/
import Derived.Test.YtgfihfmlofgopaaExp
import Derived.Test.YtgfihfmlofgopaaCut
import Derived.Deep.RegionHeld3
import Derived.Deep.DeepCutAuto
namespace Go.Proofs.Ytgfihfmlofgopaa
open Go.RowKit

/-- A difference. -/
def subO (n d p q : Int) : Option (Int × Int) := redO (n * q - p * d) (d * q)
theorem fSub_o (n d p q : Int) (w : World) (hn : sm n) (hd : sm d) (hp : sm p) (hq : sm q) :
    Calls Try.prog 50 #[.agg #[.int .i64 n, .int .i64 d], .agg #[.int .i64 p, .int .i64 q]] w fun e w' => e = .returned (.tuple #[.agg #[.int .i64 (fN (subO n d p q)), .int .i64 (fD (subO n d p q))], .bool (fB (subO n d p q))]) ∧ Below w.heap.size w w' := fSub_any n d p q w hn hd hp hq
theorem frac_sub {n d : Int} (h : fracB n d = true) (h0 : 0 ≤ n) : subO n d (n / d) 1 = some (n - n / d * d, d) := by
  unfold subO
  have hf := fracB_of h
  have hw := whole_bd (d := d) (sm_of hf.2.2.1 hf.2.2.2.1) h0 hf.1
  rw [Int.mul_one, Int.mul_one]
  have hg : Int.gcd (n - n / d * d) d = 1 := by
    have h5 := hf.2.2.2.2
    rw [Int.gcd_sub_mul_right_left]
    exact hf.2.2.2.2
  have e1 : redP (n - n / d * d) d = n - n / d * d := by unfold redP; rw [hg]; simp; omega
  have e2 : redQ (n - n / d * d) d = d := by unfold redQ; rw [hg]; simp; omega
  rw [redO_yes (by omega) ⟨by omega, by omega, by omega⟩, e1, e2]

set_option maxRecDepth 100000 in
set_option maxHeartbeats 4000000 in
theorem kexp_any (g : Nat) (s a n d : Int) (w : World) (h : RdrAt w g s a true) (h0 : 0 ≤ a) (h1 : a ≤ 1000000) (hf : fracB n d = true) (hn0 : 0 ≤ n) :
    Calls Try.prog 39 #[.pointer (some ⟨g, 0, none⟩), .agg #[.int .i64 n, .int .i64 d]] w (KPostE Value.bool g s (expM s n d a) w) := by
  have hlt := h.lt
  have hfo := fracB_of hf
  have hn : sm n := sm_of hfo.2.2.1 hfo.2.2.2.1
  have hd : 1 ≤ d := hfo.1
  have hd2 : d ≤ 1000000000 := hfo.2.1
  have hds : sm d := sm_of (by omega) hd2
  have hn2 := sm_hi hn
  have hW := whole_bd hn hn0 hd
  have HR := Lib.hid (show expM s n d a = expF s n d (n / d).toNat a from rfl)
  have HZ : Hid (∀ b, expF s n d 0 b = unitM s (n - n / d * d) d b) := Lib.hid fun b => rfl
  have HF := Lib.hid (frac_sub hf hn0)
  clear hfo hf
  generalize expM s n d a = R at *
  have x0 := box_new w #[.int .i64 n, .int .i64 d] 27
  have b0 := below_new w (.cells #[.int .i64 n, .int .i64 d] 27)
  have hC := (Chg.refl g (g + 1) w).alloc (.cells #[.int .i64 n, .int .i64 d] 27)
  replace h := h.below b0
  go_enter Try.func39, Try.ntmps39
  go_wp2_with fail
  generalize w.alloc (.cells #[.int .i64 n, .int .i64 d] 27) = w0 at *
  refine (fFloor_any _ _ _ hn hd).mono ?_
  rintro e w1 ⟨rfl, b1⟩
  replace x0 := box_below x0 b1
  replace h := h.below b1
  replace hC := hC.then_ b1
  obtain ⟨m, hm⟩ : ∃ m : Nat, n / d = (m : Int) := ⟨(n / d).toNat, by omega⟩
  rw [hm] at hW HR HZ HF
  rw [hm]
  rw [Int.toNat_natCast] at HR
  have hw1 := hW.2.1
  have hw2 := hW.2.2.1
  have hw3 := hW.2.2.2.1
  have hw4 := hW.2.2.2.2
  have hy : sm (n - (m : Int) * d) := sm_of (by omega) (by omega)
  clear hm hW b0 b1
  have hms : sm (m : Int) := sm_of (by omega) (by omega)
  go_wp2
  go_loopw [6] (fun i wr => ∃ (k : Nat) (b : Int) (ok : Bool), k ≤ m ∧ i = .int .i64 k ∧ Hid ((ok = true → R = expF s n d (m - k) b) ∧ (ok = false → R = none)) ∧ RdrAt wr g s b ok ∧ 0 ≤ b ∧ b ≤ 1000000 ∧ wr.heap[w.heap.size]? = some (.cells #[.int .i64 n, .int .i64 d] 27 (0, 0)) ∧ Chg g (g + 1) w wr) (fun i _ => m - (intOf i).toNat)
  case atStart => exact ⟨0, a, true, Nat.zero_le _, rfl, Lib.hid ⟨fun _ => HR.out, fun h => (by cases h)⟩, h, h0, h1, x0, hC⟩
  case round =>
    clear h x0 hC
    obtain ⟨k, b, ok, hk, rfl, hx, hs, hb0, hb1, x0, hC⟩ := hrel
    have hwg := lt_of_block x0
    have c2 := box_cell hs 2 _ rfl
    cases ok
    · have E := Lib.hid (hx.out.2 rfl)
      clear hx
      by_cases hlt2 : k < m
      · go_wp2
        go_cut [7, 8] (fun v7 v8 wx => ∃ gp, v7 = .pointer (some ⟨gp, 0, none⟩) ∧ v8 = .bool (fB (subO n d (m : Int) 1)) ∧ wx.heap[gp]? = some (.cells #[.int .i64 (fN (subO n d (m : Int) 1)), .int .i64 (fD (subO n d (m : Int) 1))] 27 (0, 0)) ∧ wr.heap.size ≤ gp ∧ Below wr.heap.size wr wx)
        case first =>
          have B90 := (Below.refl wr.heap.size wr).drew
          have x0k90 : wr.drew.heap[w.heap.size]? = _ := x0
          have ltx0 := lt_of_block x0
          go_region_held3 (fun w' => w'.cell? ⟨w.heap.size, 0, none⟩ = some (.int .i64 n) ∧ w'.cell? ⟨w.heap.size, 1, none⟩ = some (.int .i64 d)) (first | exact ⟨x0c092, x0c192⟩ | exact ⟨x0c091, x0c191⟩ | exact ⟨box_cell x0k90 0 _ rfl, box_cell x0k90 1 _ rfl⟩ | exact ⟨cell_new (box_cell x0k90 0 _ rfl), cell_new (box_cell x0k90 1 _ rfl)⟩ | exact ⟨cell_two x0c092 (by omega), cell_two x0c192 (by omega)⟩ | exact ⟨cell_new x0c092, cell_new x0c192⟩ | go_keep) (first
                | (go_at_call 51; refine (fInt_any _ _).mono ?_; rintro e w91 ⟨rfl, b91⟩; (first | (have B91 := keepB B90 (Nat.le_refl _) b91; have x0k91 := box_below x0k90 b91; (first | (have G91 := box_below G90.1 b91; have G91 := And.intro G91 G90.2) | skip)) | (have b91 : Below (wr.drew.alloc (.cells #[.int .i64 0, .int .i64 0] 27)).heap.size (wr.drew.alloc (.cells #[.int .i64 0, .int .i64 0] 27)) w91 := b91; have B91 := keepBN B90 (Nat.le_refl _) b91; have x0k91 := keepN x0k90 b91; have G91 : w91.heap[wr.heap.size]? = _ ∧ wr.heap.size ≤ wr.heap.size := newAt (a := World.drew wr) B90 (Nat.le_refl _) b91)); have x0c091 := box_cell x0k91 0 _ rfl; have x0c191 := box_cell x0k91 1 _ rfl; (first | (have l91 := G91.2; have d0 := box_cell G91.1 0 _ rfl; have d1 := box_cell G91.1 1 _ rfl; have f0 := box_free G91.1 0; have f1 := box_free G91.1 1) | skip))
                | (go_at_call 50; refine (fSub_o _ _ _ _ _ hn hds hms sm_one).mono ?_; rintro e w92 ⟨rfl, b92⟩; (first | (have B92 := keepB B91 (Nat.le_refl _) b92; have x0k92 := box_below x0k91 b92; (first | (have G92 := box_below G91.1 b92; have G92 := And.intro G92 G91.2) | skip)) | (have B92 := keepBN B91 (Nat.le_refl _) b92; have x0k92 := keepN x0k91 b92; have G92 := newAt B91 (Nat.le_refl _) b92)); have x0c092 := box_cell x0k92 0 _ rfl; have x0c192 := box_cell x0k92 1 _ rfl; (first | (have l92 := G92.2; have d0 := box_cell G92.1 0 _ rfl; have d1 := box_cell G92.1 1 _ rfl; have f0 := box_free G92.1 0; have f1 := box_free G92.1 1) | skip)))
          all_goals (go_wp2_with fail; go_meet; first | exact ⟨_, rfl, rfl, store_two G92.1 _ _, G92.2, below_two B92 G92.2⟩ | exact ⟨_, rfl, rfl, box_new _ _ _, B92.size, keepB B92 (Nat.le_refl _) (below_new _ _)⟩)
        case rest =>
          obtain ⟨gp, rfl, rfl, xp, hgp, hb⟩ := hcut
          rw [HF.out] at xp
          rw [HF.out]
          replace hs := hs.below hb
          replace hC := hC.then_ hb
          have hgg : g + 1 ≤ gp := by omega
          clear hb c2 hgp x0
          generalize wc = w1 at *
          simp only [fN, fD, fB] at xp ⊢
          have c2 := box_cell hs 2 _ rfl
          have p0 := box_cell xp 0 _ rfl
          have p1 := box_cell xp 1 _ rfl
          go_wp2
          go_ret
          exact KPostE.no E.out hs hb0 hb1 hC
      · obtain rfl : k = m := by omega
        go_wp2
        go_cut [7, 8] (fun v7 v8 wx => ∃ gp, v7 = .pointer (some ⟨gp, 0, none⟩) ∧ v8 = .bool (fB (subO n d (k : Int) 1)) ∧ wx.heap[gp]? = some (.cells #[.int .i64 (fN (subO n d (k : Int) 1)), .int .i64 (fD (subO n d (k : Int) 1))] 27 (0, 0)) ∧ wr.heap.size ≤ gp ∧ Below wr.heap.size wr wx)
        case first =>
          have B90 := (Below.refl wr.heap.size wr).drew
          have x0k90 : wr.drew.heap[w.heap.size]? = _ := x0
          have ltx0 := lt_of_block x0
          go_region_held3 (fun w' => w'.cell? ⟨w.heap.size, 0, none⟩ = some (.int .i64 n) ∧ w'.cell? ⟨w.heap.size, 1, none⟩ = some (.int .i64 d)) (first | exact ⟨x0c092, x0c192⟩ | exact ⟨x0c091, x0c191⟩ | exact ⟨box_cell x0k90 0 _ rfl, box_cell x0k90 1 _ rfl⟩ | exact ⟨cell_new (box_cell x0k90 0 _ rfl), cell_new (box_cell x0k90 1 _ rfl)⟩ | exact ⟨cell_two x0c092 (by omega), cell_two x0c192 (by omega)⟩ | exact ⟨cell_new x0c092, cell_new x0c192⟩ | go_keep) (first
                | (go_at_call 51; refine (fInt_any _ _).mono ?_; rintro e w91 ⟨rfl, b91⟩; (first | (have B91 := keepB B90 (Nat.le_refl _) b91; have x0k91 := box_below x0k90 b91; (first | (have G91 := box_below G90.1 b91; have G91 := And.intro G91 G90.2) | skip)) | (have b91 : Below (wr.drew.alloc (.cells #[.int .i64 0, .int .i64 0] 27)).heap.size (wr.drew.alloc (.cells #[.int .i64 0, .int .i64 0] 27)) w91 := b91; have B91 := keepBN B90 (Nat.le_refl _) b91; have x0k91 := keepN x0k90 b91; have G91 : w91.heap[wr.heap.size]? = _ ∧ wr.heap.size ≤ wr.heap.size := newAt (a := World.drew wr) B90 (Nat.le_refl _) b91)); have x0c091 := box_cell x0k91 0 _ rfl; have x0c191 := box_cell x0k91 1 _ rfl; (first | (have l91 := G91.2; have d0 := box_cell G91.1 0 _ rfl; have d1 := box_cell G91.1 1 _ rfl; have f0 := box_free G91.1 0; have f1 := box_free G91.1 1) | skip))
                | (go_at_call 50; refine (fSub_o _ _ _ _ _ hn hds hms sm_one).mono ?_; rintro e w92 ⟨rfl, b92⟩; (first | (have B92 := keepB B91 (Nat.le_refl _) b92; have x0k92 := box_below x0k91 b92; (first | (have G92 := box_below G91.1 b92; have G92 := And.intro G92 G91.2) | skip)) | (have B92 := keepBN B91 (Nat.le_refl _) b92; have x0k92 := keepN x0k91 b92; have G92 := newAt B91 (Nat.le_refl _) b92)); have x0c092 := box_cell x0k92 0 _ rfl; have x0c192 := box_cell x0k92 1 _ rfl; (first | (have l92 := G92.2; have d0 := box_cell G92.1 0 _ rfl; have d1 := box_cell G92.1 1 _ rfl; have f0 := box_free G92.1 0; have f1 := box_free G92.1 1) | skip)))
          all_goals (go_wp2_with fail; go_meet; first | exact ⟨_, rfl, rfl, store_two G92.1 _ _, G92.2, below_two B92 G92.2⟩ | exact ⟨_, rfl, rfl, box_new _ _ _, B92.size, keepB B92 (Nat.le_refl _) (below_new _ _)⟩)
        case rest =>
          obtain ⟨gp, rfl, rfl, xp, hgp, hb⟩ := hcut
          rw [HF.out] at xp
          rw [HF.out]
          replace hs := hs.below hb
          replace hC := hC.then_ hb
          have hgg : g + 1 ≤ gp := by omega
          clear hb c2 hgp x0
          generalize wc = w1 at *
          simp only [fN, fD, fB] at xp ⊢
          have c2 := box_cell hs 2 _ rfl
          have p0 := box_cell xp 0 _ rfl
          have p1 := box_cell xp 1 _ rfl
          go_wp2
          go_ret
          exact KPostE.no E.out hs hb0 hb1 hC
    · replace hx := Lib.hid (hx.out.1 rfl)
      by_cases hlt2 : k < m
      · have hs200 : m - k = (m - (k + 1)) + 1 := by omega
        rw [hs200] at hx
        clear hs200
        go_wp2_with fail
        refine (fInt_any _ _).mono ?_
        rintro e w3 ⟨rfl, b3⟩
        replace x0 := box_below x0 b3
        replace hs := hs.below b3
        replace hC := hC.then_ b3
        clear b3
        go_wp2_with fail
        refine (kunit_any _ _ _ _ _ _ hs hb0 hb1 sm_one (by omega) (by omega)).mono ?_
        rintro e w4 ⟨hyes, hno, hc⟩
        replace x0 := box_chg x0 hc (.inr (by omega))
        replace hC := hC.trans hc
        clear hc hs c2
        cases hM : unitM s 1 1 b with
        | none =>
          obtain ⟨z, rfl, b2, hs2, hb20, hb21⟩ := hno hM
          have E := Lib.hid (hx.out.trans (expF_none hM))
          clear hyes hno hM
          cases z
          · go_wp2
            go_ret
            exact KPostE.no E.out hs2 hb20 hb21 hC
          · go_wp2
            go_roundw
            case rel => exact ⟨k + 1, b2, false, by omega, by go_num, Lib.hid ⟨fun h => (by cases h), fun _ => E.out⟩, hs2, hb20, hb21, x0, hC⟩
            case measure => simp [intOf]; omega
        | some r =>
          obtain ⟨u, b2⟩ := r
          obtain ⟨rfl, hs2⟩ := hyes u b2 hM
          have hb := unitM_bd hM hb0 hb1
          have hb20 := hb.1
          have hb21 := hb.2
          have HM := Lib.hid hM
          clear hyes hno hM hb
          cases u
          · have E := Lib.hid (hx.out.trans (expF_down HM.out))
            go_wp2
            go_ret
            exact KPostE.yes E.out hs2 hC
          · have E := Lib.hid (hx.out.trans (expF_up HM.out))
            go_wp2
            go_roundw
            case rel => exact ⟨k + 1, b2, true, by omega, by go_num, Lib.hid ⟨fun _ => E.out, fun h => (by cases h)⟩, hs2, hb20, hb21, x0, hC⟩
            case measure => simp [intOf]; omega
      · obtain rfl : k = m := by omega
        have HX := Lib.hid (show R = unitM s (n - (k : Int) * d) d b by rw [hx.out, Nat.sub_self]; exact HZ.out b)
        clear hx HZ HR
        go_wp2
        go_cut [7, 8] (fun v7 v8 wx => ∃ gp, v7 = .pointer (some ⟨gp, 0, none⟩) ∧ v8 = .bool (fB (subO n d (k : Int) 1)) ∧ wx.heap[gp]? = some (.cells #[.int .i64 (fN (subO n d (k : Int) 1)), .int .i64 (fD (subO n d (k : Int) 1))] 27 (0, 0)) ∧ wr.heap.size ≤ gp ∧ Below wr.heap.size wr wx)
        case first =>
          have B90 := (Below.refl wr.heap.size wr).drew
          have x0k90 : wr.drew.heap[w.heap.size]? = _ := x0
          have ltx0 := lt_of_block x0
          go_region_held3 (fun w' => w'.cell? ⟨w.heap.size, 0, none⟩ = some (.int .i64 n) ∧ w'.cell? ⟨w.heap.size, 1, none⟩ = some (.int .i64 d)) (first | exact ⟨x0c092, x0c192⟩ | exact ⟨x0c091, x0c191⟩ | exact ⟨box_cell x0k90 0 _ rfl, box_cell x0k90 1 _ rfl⟩ | exact ⟨cell_new (box_cell x0k90 0 _ rfl), cell_new (box_cell x0k90 1 _ rfl)⟩ | exact ⟨cell_two x0c092 (by omega), cell_two x0c192 (by omega)⟩ | exact ⟨cell_new x0c092, cell_new x0c192⟩ | go_keep) (first
                | (go_at_call 51; refine (fInt_any _ _).mono ?_; rintro e w91 ⟨rfl, b91⟩; (first | (have B91 := keepB B90 (Nat.le_refl _) b91; have x0k91 := box_below x0k90 b91; (first | (have G91 := box_below G90.1 b91; have G91 := And.intro G91 G90.2) | skip)) | (have b91 : Below (wr.drew.alloc (.cells #[.int .i64 0, .int .i64 0] 27)).heap.size (wr.drew.alloc (.cells #[.int .i64 0, .int .i64 0] 27)) w91 := b91; have B91 := keepBN B90 (Nat.le_refl _) b91; have x0k91 := keepN x0k90 b91; have G91 : w91.heap[wr.heap.size]? = _ ∧ wr.heap.size ≤ wr.heap.size := newAt (a := World.drew wr) B90 (Nat.le_refl _) b91)); have x0c091 := box_cell x0k91 0 _ rfl; have x0c191 := box_cell x0k91 1 _ rfl; (first | (have l91 := G91.2; have d0 := box_cell G91.1 0 _ rfl; have d1 := box_cell G91.1 1 _ rfl; have f0 := box_free G91.1 0; have f1 := box_free G91.1 1) | skip))
                | (go_at_call 50; refine (fSub_o _ _ _ _ _ hn hds hms sm_one).mono ?_; rintro e w92 ⟨rfl, b92⟩; (first | (have B92 := keepB B91 (Nat.le_refl _) b92; have x0k92 := box_below x0k91 b92; (first | (have G92 := box_below G91.1 b92; have G92 := And.intro G92 G91.2) | skip)) | (have B92 := keepBN B91 (Nat.le_refl _) b92; have x0k92 := keepN x0k91 b92; have G92 := newAt B91 (Nat.le_refl _) b92)); have x0c092 := box_cell x0k92 0 _ rfl; have x0c192 := box_cell x0k92 1 _ rfl; (first | (have l92 := G92.2; have d0 := box_cell G92.1 0 _ rfl; have d1 := box_cell G92.1 1 _ rfl; have f0 := box_free G92.1 0; have f1 := box_free G92.1 1) | skip)))
          all_goals (go_wp2_with fail; go_meet; first | exact ⟨_, rfl, rfl, store_two G92.1 _ _, G92.2, below_two B92 G92.2⟩ | exact ⟨_, rfl, rfl, box_new _ _ _, B92.size, keepB B92 (Nat.le_refl _) (below_new _ _)⟩)
        case rest =>
          obtain ⟨gp, rfl, rfl, xp, hgp, hb⟩ := hcut
          rw [HF.out] at xp
          rw [HF.out]
          replace hs := hs.below hb
          replace hC := hC.then_ hb
          have hgg : g + 1 ≤ gp := by omega
          clear hb c2 hgp x0
          generalize wc = w1 at *
          simp only [fN, fD, fB] at xp ⊢
          have c2 := box_cell hs 2 _ rfl
          have p0 := box_cell xp 0 _ rfl
          have p1 := box_cell xp 1 _ rfl
          go_wp2_with fail
          refine (kunit_any _ _ _ _ _ _ hs hb0 hb1 hy hd hd2).mono ?_
          rintro e w4 ⟨hyes, hno, hc⟩
          replace hC := hC.trans hc
          rw [← HX.out] at hyes hno
          clear hc hs xp p0 p1 c2
          cases hM : R with
          | none =>
            obtain ⟨z, rfl, b2, hs2, hb20, hb21⟩ := hno hM
            have E := Lib.hid hM
            clear hyes hno hM
            go_wp2
            go_ret
            exact KPostE.no E.out hs2 hb20 hb21 hC
          | some r =>
            obtain ⟨u, b2⟩ := r
            obtain ⟨rfl, hs2⟩ := hyes u b2 hM
            have E := Lib.hid hM
            clear hyes hno hM
            go_wp2
            go_ret
            exact KPostE.yes E.out hs2 hC

set_option maxRecDepth 100000 in
set_option maxHeartbeats 4000000 in
theorem kexp_dead (g : Nat) (s b n d : Int) (w : World) (h : RdrAt w g s b false) (hf : fracB n d = true) (hn0 : 0 ≤ n) :
    Calls Try.prog 39 #[.pointer (some ⟨g, 0, none⟩), .agg #[.int .i64 n, .int .i64 d]] w fun e w' => e = .returned (.bool false) ∧ RdrAt w' g s b false ∧ Chg g (g + 1) w w' := by
  have hlt := h.lt
  have hfo := fracB_of hf
  have hn : sm n := sm_of hfo.2.2.1 hfo.2.2.2.1
  have hd : 1 ≤ d := hfo.1
  have hd2 : d ≤ 1000000000 := hfo.2.1
  have hds : sm d := sm_of (by omega) hd2
  have hn2 := sm_hi hn
  have hW := whole_bd hn hn0 hd
  have HF := Lib.hid (frac_sub hf hn0)
  clear hfo hf
  have x0 := box_new w #[.int .i64 n, .int .i64 d] 27
  have b0 := below_new w (.cells #[.int .i64 n, .int .i64 d] 27)
  have hC := (Chg.refl g (g + 1) w).alloc (.cells #[.int .i64 n, .int .i64 d] 27)
  replace h := h.below b0
  go_enter Try.func39, Try.ntmps39
  go_wp2_with fail
  generalize w.alloc (.cells #[.int .i64 n, .int .i64 d] 27) = w0 at *
  refine (fFloor_any _ _ _ hn hd).mono ?_
  rintro e w1 ⟨rfl, b1⟩
  replace x0 := box_below x0 b1
  replace h := h.below b1
  replace hC := hC.then_ b1
  obtain ⟨m, hm⟩ : ∃ m : Nat, n / d = (m : Int) := ⟨(n / d).toNat, by omega⟩
  rw [hm] at hW HF
  rw [hm]
  have hw1 := hW.2.1
  clear hm hW b0 b1
  have hms : sm (m : Int) := sm_of (by omega) (by omega)
  go_wp2
  go_loopw [6] (fun i wr => i = .int .i64 0 ∧ w1 = wr) (fun _ _ => 0)
  case atStart => exact ⟨rfl, rfl⟩
  case round =>
    obtain ⟨rfl, rfl⟩ := hrel
    have hs := h
    have hwg := lt_of_block x0
    have c2 := box_cell hs 2 _ rfl
    by_cases hlt2 : 0 < m
    · go_wp2
      go_cut [7, 8] (fun v7 v8 wx => ∃ gp, v7 = .pointer (some ⟨gp, 0, none⟩) ∧ v8 = .bool (fB (subO n d ((m : Nat) : Int) 1)) ∧ wx.heap[gp]? = some (.cells #[.int .i64 (fN (subO n d ((m : Nat) : Int) 1)), .int .i64 (fD (subO n d ((m : Nat) : Int) 1))] 27 (0, 0)) ∧ w1.heap.size ≤ gp ∧ Below w1.heap.size w1 wx)
      case first =>
        have B90 := (Below.refl w1.heap.size w1).drew
        have x0k90 : w1.drew.heap[w.heap.size]? = _ := x0
        have ltx0 := lt_of_block x0
        go_region_held3 (fun w' => w'.cell? ⟨w.heap.size, 0, none⟩ = some (.int .i64 n) ∧ w'.cell? ⟨w.heap.size, 1, none⟩ = some (.int .i64 d)) (first | exact ⟨x0c092, x0c192⟩ | exact ⟨x0c091, x0c191⟩ | exact ⟨box_cell x0k90 0 _ rfl, box_cell x0k90 1 _ rfl⟩ | exact ⟨cell_new (box_cell x0k90 0 _ rfl), cell_new (box_cell x0k90 1 _ rfl)⟩ | exact ⟨cell_two x0c092 (by omega), cell_two x0c192 (by omega)⟩ | exact ⟨cell_new x0c092, cell_new x0c192⟩ | go_keep) (first
              | (go_at_call 51; refine (fInt_any _ _).mono ?_; rintro e w91 ⟨rfl, b91⟩; (first | (have B91 := keepB B90 (Nat.le_refl _) b91; have x0k91 := box_below x0k90 b91; (first | (have G91 := box_below G90.1 b91; have G91 := And.intro G91 G90.2) | skip)) | (have b91 : Below (w1.drew.alloc (.cells #[.int .i64 0, .int .i64 0] 27)).heap.size (w1.drew.alloc (.cells #[.int .i64 0, .int .i64 0] 27)) w91 := b91; have B91 := keepBN B90 (Nat.le_refl _) b91; have x0k91 := keepN x0k90 b91; have G91 : w91.heap[w1.heap.size]? = _ ∧ w1.heap.size ≤ w1.heap.size := newAt (a := World.drew w1) B90 (Nat.le_refl _) b91)); have x0c091 := box_cell x0k91 0 _ rfl; have x0c191 := box_cell x0k91 1 _ rfl; (first | (have l91 := G91.2; have d0 := box_cell G91.1 0 _ rfl; have d1 := box_cell G91.1 1 _ rfl; have f0 := box_free G91.1 0; have f1 := box_free G91.1 1) | skip))
              | (go_at_call 50; refine (fSub_o _ _ _ _ _ hn hds hms sm_one).mono ?_; rintro e w92 ⟨rfl, b92⟩; (first | (have B92 := keepB B91 (Nat.le_refl _) b92; have x0k92 := box_below x0k91 b92; (first | (have G92 := box_below G91.1 b92; have G92 := And.intro G92 G91.2) | skip)) | (have B92 := keepBN B91 (Nat.le_refl _) b92; have x0k92 := keepN x0k91 b92; have G92 := newAt B91 (Nat.le_refl _) b92)); have x0c092 := box_cell x0k92 0 _ rfl; have x0c192 := box_cell x0k92 1 _ rfl; (first | (have l92 := G92.2; have d0 := box_cell G92.1 0 _ rfl; have d1 := box_cell G92.1 1 _ rfl; have f0 := box_free G92.1 0; have f1 := box_free G92.1 1) | skip)))
        all_goals (go_wp2_with fail; go_meet; first | exact ⟨_, rfl, rfl, store_two G92.1 _ _, G92.2, below_two B92 G92.2⟩ | exact ⟨_, rfl, rfl, box_new _ _ _, B92.size, keepB B92 (Nat.le_refl _) (below_new _ _)⟩)
      case rest =>
        obtain ⟨gp, rfl, rfl, xp, hgp, hb⟩ := hcut
        rw [HF.out]
        replace hs := hs.below hb
        replace hC := hC.then_ hb
        clear hb c2 hgp x0 xp
        generalize wc = w2 at *
        simp only [fB]
        have c2 := box_cell hs 2 _ rfl
        go_wp2
        go_ret
        exact ⟨rfl, hs, hC⟩
    · obtain rfl : m = 0 := by omega
      go_wp2
      go_cut [7, 8] (fun v7 v8 wx => ∃ gp, v7 = .pointer (some ⟨gp, 0, none⟩) ∧ v8 = .bool (fB (subO n d ((0 : Nat) : Int) 1)) ∧ wx.heap[gp]? = some (.cells #[.int .i64 (fN (subO n d ((0 : Nat) : Int) 1)), .int .i64 (fD (subO n d ((0 : Nat) : Int) 1))] 27 (0, 0)) ∧ w1.heap.size ≤ gp ∧ Below w1.heap.size w1 wx)
      case first =>
        have B90 := (Below.refl w1.heap.size w1).drew
        have x0k90 : w1.drew.heap[w.heap.size]? = _ := x0
        have ltx0 := lt_of_block x0
        go_region_held3 (fun w' => w'.cell? ⟨w.heap.size, 0, none⟩ = some (.int .i64 n) ∧ w'.cell? ⟨w.heap.size, 1, none⟩ = some (.int .i64 d)) (first | exact ⟨x0c092, x0c192⟩ | exact ⟨x0c091, x0c191⟩ | exact ⟨box_cell x0k90 0 _ rfl, box_cell x0k90 1 _ rfl⟩ | exact ⟨cell_new (box_cell x0k90 0 _ rfl), cell_new (box_cell x0k90 1 _ rfl)⟩ | exact ⟨cell_two x0c092 (by omega), cell_two x0c192 (by omega)⟩ | exact ⟨cell_new x0c092, cell_new x0c192⟩ | go_keep) (first
              | (go_at_call 51; refine (fInt_any _ _).mono ?_; rintro e w91 ⟨rfl, b91⟩; (first | (have B91 := keepB B90 (Nat.le_refl _) b91; have x0k91 := box_below x0k90 b91; (first | (have G91 := box_below G90.1 b91; have G91 := And.intro G91 G90.2) | skip)) | (have b91 : Below (w1.drew.alloc (.cells #[.int .i64 0, .int .i64 0] 27)).heap.size (w1.drew.alloc (.cells #[.int .i64 0, .int .i64 0] 27)) w91 := b91; have B91 := keepBN B90 (Nat.le_refl _) b91; have x0k91 := keepN x0k90 b91; have G91 : w91.heap[w1.heap.size]? = _ ∧ w1.heap.size ≤ w1.heap.size := newAt (a := World.drew w1) B90 (Nat.le_refl _) b91)); have x0c091 := box_cell x0k91 0 _ rfl; have x0c191 := box_cell x0k91 1 _ rfl; (first | (have l91 := G91.2; have d0 := box_cell G91.1 0 _ rfl; have d1 := box_cell G91.1 1 _ rfl; have f0 := box_free G91.1 0; have f1 := box_free G91.1 1) | skip))
              | (go_at_call 50; refine (fSub_o _ _ _ _ _ hn hds hms sm_one).mono ?_; rintro e w92 ⟨rfl, b92⟩; (first | (have B92 := keepB B91 (Nat.le_refl _) b92; have x0k92 := box_below x0k91 b92; (first | (have G92 := box_below G91.1 b92; have G92 := And.intro G92 G91.2) | skip)) | (have B92 := keepBN B91 (Nat.le_refl _) b92; have x0k92 := keepN x0k91 b92; have G92 := newAt B91 (Nat.le_refl _) b92)); have x0c092 := box_cell x0k92 0 _ rfl; have x0c192 := box_cell x0k92 1 _ rfl; (first | (have l92 := G92.2; have d0 := box_cell G92.1 0 _ rfl; have d1 := box_cell G92.1 1 _ rfl; have f0 := box_free G92.1 0; have f1 := box_free G92.1 1) | skip)))
        all_goals (go_wp2_with fail; go_meet; first | exact ⟨_, rfl, rfl, store_two G92.1 _ _, G92.2, below_two B92 G92.2⟩ | exact ⟨_, rfl, rfl, box_new _ _ _, B92.size, keepB B92 (Nat.le_refl _) (below_new _ _)⟩)
      case rest =>
        obtain ⟨gp, rfl, rfl, xp, hgp, hb⟩ := hcut
        rw [HF.out]
        replace hs := hs.below hb
        replace hC := hC.then_ hb
        clear hb c2 hgp x0 xp
        generalize wc = w2 at *
        simp only [fB]
        have c2 := box_cell hs 2 _ rfl
        go_wp2
        go_ret
        exact ⟨rfl, hs, hC⟩
end Go.Proofs.Ytgfihfmlofgopaa
