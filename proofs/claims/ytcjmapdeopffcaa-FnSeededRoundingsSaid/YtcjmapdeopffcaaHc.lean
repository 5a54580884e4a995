/- Several small texts in one: MxS, MxM, MxN. -/
import Derived.Test.YtcjmapdeopffcaaHb
import Derived.Test.YtcjmapdeopffcaaYw
namespace Go.Proofs.Ytcjmapdeopffcaa

section
open Go.RowKit Flo

theorem sm_small {n : Nat} {g : Nat → Int} (hn : n ≤ 1000) (hb : ∀ k, k < n → 0 ≤ g k ∧ g k ≤ 1000000000) : ∀ k, k ≤ n → 0 ≤ sm k g ∧ sm k g ≤ 1000000000000 := fun k hk => by
  have h := sm_bd (n := k) (f := g) (b := 1000000000) (fun q hq => hb q (by omega))
  omega
theorem updV_self {n : Nat} {g : Nat → Int} {i : Nat} {v : Int} (hv : v = g i) : ∀ k, k < n → (if k = i then v else g k) = g k := fun k _ => by
  by_cases e : k = i
  · rw [if_pos e, e, hv]
  · rw [if_neg e]

set_option maxRecDepth 100000 in
set_option maxHeartbeats 2000000 in
theorem total_any (A : Option Addr) (n c : Nat) (g : Nat → Int) (w : World) (h : VecR w A n g) (hn : n ≤ 1000) (hb : ∀ k, k < n → 0 ≤ g k ∧ g k ≤ 1000000000) :
    Calls Try.prog 73 #[.slice A n c] w fun e w' => e = .returned (.int .i64 (sm n g)) ∧ w = w' := by
  have HB := Lib.hid (sm_small hn hb)
  have HC := Lib.hid hb
  clear hb
  go_enter Try.func73, Try.ntmps73
  go_wp2
  go_loopw [3, 8] (fun a i wr => ∃ k : Nat, k ≤ n ∧ i = .int .i64 k ∧ a = .int .i64 (sm k g) ∧ w = wr) (fun _ i _ => n - (intOf i).toNat)
  case atStart => exact ⟨0, Nat.zero_le _, rfl, rfl, rfl⟩
  case round =>
    obtain ⟨k, hk, rfl, rfl, rfl⟩ := hrel
    by_cases hlt : k < n
    · obtain ⟨ad, rfl, c0⟩ := vecR_at h hlt
      have h1 := HB.out k hk
      have h2 := HC.out k hlt
      have HS := Lib.hid (sm_succ k g)
      generalize g k = v at *
      generalize sm k g = s at *
      go_wp2
      go_roundw
      case rel => exact ⟨k + 1, by omega, by go_num, by rw [HS.out], trivial⟩
      case measure => simp [intOf]; omega
    · obtain rfl : k = n := by omega
      go_wp2
      go_ret
      exact ⟨rfl, rfl⟩

set_option maxRecDepth 100000 in
set_option maxHeartbeats 2000000 in
theorem tSum_any (A : Option Addr) (n c : Nat) (g : Nat → Int) (w : World) (h : VecR w A n g) (hn : n ≤ 1000) (hb : ∀ k, k < n → 0 ≤ g k ∧ g k ≤ 1000000000) :
    Calls Try.prog 85 #[.slice A n c] w fun e w' => e = .returned (.int .i64 (sm n g)) ∧ w = w' := by
  have HB := Lib.hid (sm_small hn hb)
  have HC := Lib.hid hb
  clear hb
  go_enter Try.func85, Try.ntmps85
  go_wp2
  go_loopw [3, 8] (fun a i wr => ∃ k : Nat, k ≤ n ∧ i = .int .i64 k ∧ a = .int .i64 (sm k g) ∧ w = wr) (fun _ i _ => n - (intOf i).toNat)
  case atStart => exact ⟨0, Nat.zero_le _, rfl, rfl, rfl⟩
  case round =>
    obtain ⟨k, hk, rfl, rfl, rfl⟩ := hrel
    by_cases hlt : k < n
    · obtain ⟨ad, rfl, c0⟩ := vecR_at h hlt
      have h1 := HB.out k hk
      have h2 := HC.out k hlt
      have HS := Lib.hid (sm_succ k g)
      generalize g k = v at *
      generalize sm k g = s at *
      go_wp2
      go_roundw
      case rel => exact ⟨k + 1, by omega, by go_num, by rw [HS.out], trivial⟩
      case measure => simp [intOf]; omega
    · obtain rfl : k = n := by omega
      go_wp2
      go_ret
      exact ⟨rfl, rfl⟩

theorem rep_lst (n : Nat) : List.replicate n (0 : Int) = lst n (fun _ => 0) := by
  induction n with
  | zero => rfl
  | succ n ih => rw [List.replicate_succ', ih, lst_snoc]
set_option maxRecDepth 100000 in
set_option maxHeartbeats 2000000 in
theorem rowSums_any (A : Option Addr) (n c m : Nat) (f : Nat → Nat → Int) (w : World) (h : MatR w A n m f) (hn : n ≤ 1000) (hm : m ≤ 1000) (hb : ∀ i j, i < n → j < m → 0 ≤ f i j ∧ f i j ≤ 1000000000) :
    Calls Try.prog 71 #[.slice A n c] w fun e w' => ∃ A' c', e = .returned (.slice A' n c') ∧ Vec w' w.heap.size w'.heap.size A' n c' (fun i => sm m (f i)) ∧ Below w.heap.size w w' := by
  obtain ⟨i0, hi, hz0, hz1, hz2⟩ := info_parts Try.infoInt
  have HC := Lib.hid hb
  have H := Lib.hid h
  clear hb h
  go_enter Try.func71, Try.ntmps71
  go_wp2_with (at_make; refine wpList_make_full _ rfl _ _ 24 rfl w.heap.size 3 i0 _ 1 Try.underlying24 hi hz0 hz1 .i64 .i64 _ _ n rfl rfl rfl rfl (by rw [hz2]; omega) (by unfold maxLen; omega) (Nat.le_refl _) ?_; intro w1 hown hg)
  rw [map_replicate0, rep_lst] at hown
  have hO : Hid (Vec w1 w.heap.size (w.heap.size + 1) (some ⟨w.heap.size, 0, none⟩) n n (fun i => if i < 0 then sm m (f i) else 0)) := Lib.hid ⟨hown, (fun k hk => by simp [rowOf] at hk; omega), by omega⟩
  have hb1 : Hid (Below w.heap.size w w1) := Lib.hid ((Below.refl _ _).grown hg (Nat.le_refl _) (by simp))
  clear hown hg hi hz0 hz1 hz2
  go_loopw [13] (fun i wr => ∃ (j : Nat), j ≤ n ∧ i = .int .i64 j ∧ Hid (Vec wr w.heap.size (w.heap.size + 1) (some ⟨w.heap.size, 0, none⟩) n n (fun i => if i < j then sm m (f i) else 0)) ∧ Hid (Below w.heap.size w wr)) (fun i _ => n - (intOf i).toNat)
  case atStart => exact ⟨0, Nat.zero_le _, rfl, hO, hb1⟩
  case round =>
    clear hO hb1
    obtain ⟨j, hj, rfl, HO, HB⟩ := hrel
    by_cases hlt : j < n
    · obtain ⟨ad, rfl, V, cv, c00, hv⟩ := matR_row H.out hlt
      have c0 := (HB.out.cell (block_lt_of_cell c00)).trans c00
      have HV := Lib.hid hv
      have HS := Lib.hid (sm_small hm (HC.out j · hlt ·))
      have HS2 := Lib.hid (fun k hk => HC.out j k hlt hk)
      have HO0 : Hid (Vec wr w.heap.size (w.heap.size + 1) (some ⟨w.heap.size, 0, none⟩) n n (fun i => if i = j then sm 0 (f j) else if i < j then sm m (f i) else 0)) := Lib.hid (vec_fn HO.out fun k hk => by
        by_cases e : k = j
        · rw [if_pos e, e, if_neg (by omega)]; rfl
        · rw [if_neg e])
      clear hv HO c00
      go_wp2_with fail
      clear c0
      go_loopw [20] (fun i wr => ∃ (k : Nat), k ≤ m ∧ i = .int .i64 k ∧ Hid (Vec wr w.heap.size (w.heap.size + 1) (some ⟨w.heap.size, 0, none⟩) n n (fun i => if i = j then sm k (f j) else if i < j then sm m (f i) else 0)) ∧ Hid (Below w.heap.size w wr)) (fun i _ => m - (intOf i).toNat)
      case atStart => exact ⟨0, Nat.zero_le _, rfl, HO0, HB⟩
      case round =>
        clear HO0 HB
        obtain ⟨k, hk, rfl, HO, HB⟩ := hrel
        by_cases hlk : k < m
        · obtain ⟨av, rfl, cv0⟩ := vecR_at (HV.out.below HB.out) hlk
          obtain ⟨b, hb', s0, s1, s2, s3, s4, back⟩ := vec_cell HO.out hlt
          obtain rfl : w.heap.size = b := congrArg Addr.block (Option.some.inj hb')
          rw [if_pos rfl] at s0
          have h1 := HS.out k hk
          have h2 := HS2.out k hlk
          have HO1 := Lib.hid (vec_fn (g' := fun i => if i = j then sm (k + 1) (f j) else if i < j then sm m (f i) else 0) (back (sm k (f j) + f j k)) fun q hq => by
            by_cases e : q = j
            · rw [if_pos e, if_pos e]; rfl
            · rw [if_neg e, if_neg e, if_neg e])
          have HB1 := Lib.hid (HB.out.setCell (p := ⟨w.heap.size, j, none⟩) (Nat.le_refl _) (.int .i64 (sm k (f j) + f j k)))
          clear back hb' s2 s3 HO HB
          generalize f j k = v at *
          generalize sm k (f j) = s at *
          go_wp2
          go_roundw
          case rel => exact ⟨k + 1, by omega, by go_num, HO1, HB1⟩
          case measure => simp [intOf]; omega
        · obtain rfl : k = m := by omega
          have HO1 := Lib.hid (vec_fn (g' := fun i => if i < j + 1 then sm k (f i) else 0) HO.out fun q hq => by
            by_cases e : q = j
            · rw [if_pos e, e, if_pos (by omega)]
            · rw [if_neg e]
              by_cases e2 : q < j
              · rw [if_pos e2, if_pos (by omega)]
              · rw [if_neg e2, if_neg (by omega)])
          clear HO
          go_wp2
          go_roundw
          case rel => exact ⟨j + 1, by omega, by go_num, HO1, HB⟩
          case measure => simp [intOf]; omega
    · obtain rfl : j = n := by omega
      have HF := Lib.hid (vec_fn (g' := fun i => sm m (f i)) HO.out fun k hk => by rw [if_pos hk])
      go_wp2
      go_ret
      exact ⟨some ⟨w.heap.size, 0, none⟩, j, rfl, HF.out.fit (Nat.le_refl _), HB.out⟩

set_option maxRecDepth 100000 in
set_option maxHeartbeats 2000000 in
theorem colSums_any (A : Option Addr) (n c m : Nat) (f : Nat → Nat → Int) (w : World) (h : MatR w A n m f) (h1n : 1 ≤ n) (hn : n ≤ 1000) (hm : m ≤ 1000) (hb : ∀ i j, i < n → j < m → 0 ≤ f i j ∧ f i j ≤ 1000000000) :
    Calls Try.prog 72 #[.slice A n c] w fun e w' => ∃ A' c', e = .returned (.slice A' m c') ∧ Vec w' w.heap.size w'.heap.size A' m c' (fun j => sm n (fun i => f i j)) ∧ Below w.heap.size w w' := by
  obtain ⟨i0, hi, hz0, hz1, hz2⟩ := info_parts Try.infoInt
  have HC := Lib.hid hb
  have H := Lib.hid h
  obtain ⟨ad, rfl, V0, cv0, r0, _⟩ := matR_row h (show 0 < n by omega)
  have r0 : w.cell? ad = some (.slice V0 m cv0) := by simpa [Addr.add] using r0
  clear hb h
  go_enter Try.func72, Try.ntmps72
  go_wp2_with (at_make; refine wpList_make_full _ rfl _ _ 24 rfl w.heap.size 3 i0 _ 1 Try.underlying24 hi hz0 hz1 .i64 .i64 _ _ m rfl rfl rfl rfl (by rw [hz2]; omega) (by unfold maxLen; omega) (Nat.le_refl _) ?_; intro w1 hown hg)
  rw [map_replicate0, rep_lst] at hown
  have hO : Hid (Vec w1 w.heap.size (w.heap.size + 1) (some ⟨w.heap.size, 0, none⟩) m m (fun j => sm 0 (fun i => f i j))) := Lib.hid ⟨hown, (fun k hk => by simp [rowOf] at hk; omega), by omega⟩
  have hb1 : Hid (Below w.heap.size w w1) := Lib.hid ((Below.refl _ _).grown hg (Nat.le_refl _) (by simp))
  clear hown hg hi hz0 hz1 hz2 r0
  go_loopw [15] (fun i wr => ∃ (j : Nat), j ≤ n ∧ i = .int .i64 j ∧ Hid (Vec wr w.heap.size (w.heap.size + 1) (some ⟨w.heap.size, 0, none⟩) m m (fun q => sm j (fun i => f i q))) ∧ Hid (Below w.heap.size w wr)) (fun i _ => n - (intOf i).toNat)
  case atStart => exact ⟨0, Nat.zero_le _, rfl, hO, hb1⟩
  case round =>
    clear hO hb1
    obtain ⟨j, hj, rfl, HO, HB⟩ := hrel
    by_cases hlt : j < n
    · obtain ⟨ad', e', V, cv, c00, hv⟩ := matR_row H.out hlt
      obtain rfl : ad = ad' := Option.some.inj e'
      have c0 := (HB.out.cell (block_lt_of_cell c00)).trans c00
      have HV := Lib.hid hv
      have HS := Lib.hid (fun q (hq : q < m) => sm_small (g := fun i => f i q) hn (fun k hk => HC.out k q hk hq) j hj)
      have HS2 := Lib.hid (fun k hk => HC.out j k hlt hk)
      have HO0 : Hid (Vec wr w.heap.size (w.heap.size + 1) (some ⟨w.heap.size, 0, none⟩) m m (fun q => if q < 0 then sm (j + 1) (fun i => f i q) else sm j (fun i => f i q))) := Lib.hid (vec_fn HO.out fun k hk => by rw [if_neg (by omega)])
      clear hv HO c00 e'
      go_wp2_with fail
      clear c0
      go_loopw [21] (fun i wr => ∃ (k : Nat), k ≤ m ∧ i = .int .i64 k ∧ Hid (Vec wr w.heap.size (w.heap.size + 1) (some ⟨w.heap.size, 0, none⟩) m m (fun q => if q < k then sm (j + 1) (fun i => f i q) else sm j (fun i => f i q))) ∧ Hid (Below w.heap.size w wr)) (fun i _ => m - (intOf i).toNat)
      case atStart => exact ⟨0, Nat.zero_le _, rfl, HO0, HB⟩
      case round =>
        clear HO0 HB
        obtain ⟨k, hk, rfl, HO, HB⟩ := hrel
        by_cases hlk : k < m
        · obtain ⟨av, rfl, cv0⟩ := vecR_at (HV.out.below HB.out) hlk
          obtain ⟨b, hb', s0, s1, s2, s3, s4, back⟩ := vec_cell HO.out hlk
          obtain rfl : w.heap.size = b := congrArg Addr.block (Option.some.inj hb')
          rw [if_neg (by omega)] at s0
          have h1 := HS.out k hlk
          have h2 := HS2.out k hlk
          have HO1 := Lib.hid (vec_fn (g' := fun q => if q < k + 1 then sm (j + 1) (fun i => f i q) else sm j (fun i => f i q)) (back (sm j (fun i => f i k) + f j k)) fun q hq => by
            by_cases e : q = k
            · rw [if_pos e, e, if_pos (by omega)]; rfl
            · rw [if_neg e]
              by_cases e2 : q < k
              · rw [if_pos e2, if_pos (by omega)]
              · rw [if_neg e2, if_neg (by omega)])
          have HB1 := Lib.hid (HB.out.setCell (p := ⟨w.heap.size, k, none⟩) (Nat.le_refl _) (.int .i64 (sm j (fun i => f i k) + f j k)))
          clear back hb' s2 s3 HO HB
          generalize f j k = v at *
          generalize sm j (fun i => f i k) = s at *
          go_wp2
          go_roundw
          case rel => exact ⟨k + 1, by omega, by go_num, HO1, HB1⟩
          case measure => simp [intOf]; omega
        · obtain rfl : k = m := by omega
          have HO1 := Lib.hid (vec_fn (g' := fun q => sm (j + 1) (fun i => f i q)) HO.out fun q hq => by rw [if_pos hq])
          clear HO
          go_wp2
          go_roundw
          case rel => exact ⟨j + 1, by omega, by go_num, HO1, HB⟩
          case measure => simp [intOf]; omega
    · obtain rfl : j = n := by omega
      go_wp2
      go_ret
      exact ⟨some ⟨w.heap.size, 0, none⟩, m, rfl, HO.out.fit (Nat.le_refl _), HB.out⟩

set_option maxRecDepth 100000 in
set_option maxHeartbeats 2000000 in
theorem tColumn_any (A : Option Addr) (n c m j : Nat) (f : Nat → Nat → Int) (w : World) (h : MatR w A n m f) (hn : n ≤ 1000) (hj : j < m) :
    Calls Try.prog 86 #[.slice A n c, .int .i64 j] w fun e w' => ∃ A' c', e = .returned (.slice A' n c') ∧ Vec w' w.heap.size w'.heap.size A' n c' (fun i => f i j) ∧ Below w.heap.size w w' := by
  have H := Lib.hid h
  clear h
  have O0 : Hid (Own w w.heap.size none 0 0 (lst 0 (fun i => f i j))) := Lib.hid Own.nil_
  go_enter Try.func86, Try.ntmps86
  go_wp2
  go_loopw [5, 10] (fun a i wr => ∃ (k : Nat) (D : Option Addr) (cD : Nat), k ≤ n ∧ i = .int .i64 k ∧ a = .slice D k cD ∧ Hid (Own wr w.heap.size D k cD (lst k (fun i => f i j))) ∧ Hid (Below w.heap.size w wr)) (fun _ i _ => n - (intOf i).toNat)
  case atStart => exact ⟨0, none, 0, Nat.zero_le _, rfl, rfl, O0, Lib.hid (Below.refl _ _)⟩
  case round =>
    clear O0
    obtain ⟨k, D, cD, hk, rfl, rfl, HO, HB⟩ := hrel
    by_cases hlt : k < n
    · obtain ⟨ad, av, cv, rfl, c0, c1⟩ := matR_cell (H.out.below HB.out) hlt hj
      have ho := HO.out
      have hz := HB.out.size
      have HS := Lib.hid (lst_snoc (m := k) (g := fun i => f i j))
      have HR := Lib.hid (fun q hq => (HO.out.row_ge q hq).1)
      generalize f k j = v at *
      go_wp2_with (at_builtin; refine wp_app1 rfl _ _ rfl w.heap.size D k cD _ rfl ho _ rfl rfl (by omega) hz ?_; intro D2 cD2 w6 ho6 hg6 _; have HO6 := Lib.hid ho6; have HB6 := Lib.hid (HB.out.grown hg6 hz HR.out); rw [← HS.out] at HO6; clear ho6 hg6)
      go_roundw
      case rel => exact ⟨k + 1, D2, cD2, by omega, by go_num, rfl, HO6, HB6⟩
      case measure => simp [intOf]; omega
    · obtain rfl : k = n := by omega
      go_wp2
      go_ret
      exact ⟨D, cD, rfl, OwnI.of_own HO.out (by omega), HB.out⟩

set_option maxRecDepth 100000 in
set_option maxHeartbeats 2000000 in
theorem tOwn_any (A : Option Addr) (n c m : Nat) (f : Nat → Nat → Int) (w : World) (h : MatR w A n m f) (hn : n ≤ 1000) (h1m : 1 ≤ m) (hm : m ≤ 1000) :
    Calls Try.prog 68 #[.slice A n c] w fun e w' => ∃ A' c', e = .returned (.slice A' n c') ∧ Mat w' w.heap.size w'.heap.size A' n c' m f ∧ Below w.heap.size w w' := by
  have H := Lib.hid h
  clear h
  have O0 : Hid (Mat w w.heap.size w.heap.size none 0 0 m f) := Lib.hid mat_nil
  go_enter Try.func68, Try.ntmps68
  go_wp2
  go_loopw [3, 8] (fun a i wr => ∃ (k : Nat) (D : Option Addr) (cD : Nat), k ≤ n ∧ i = .int .i64 k ∧ a = .slice D k cD ∧ Hid (Mat wr w.heap.size wr.heap.size D k cD m f) ∧ Hid (Below w.heap.size w wr)) (fun _ i _ => n - (intOf i).toNat)
  case atStart => exact ⟨0, none, 0, Nat.zero_le _, rfl, rfl, O0, Lib.hid (Below.refl _ _)⟩
  case round =>
    clear O0
    obtain ⟨k, D, cD, hk, rfl, rfl, HO, HB⟩ := hrel
    by_cases hlt : k < n
    · obtain ⟨ad, rfl, V, cv, c0, hv⟩ := matR_row (H.out.below HB.out) hlt
      obtain ⟨ys, ho, hs⟩ := HO.out.cells
      have hz := HB.out.size
      have HV := Lib.hid hv
      have HS := Lib.hid (fun (w6 : World) (D6 : Option Addr) (c6 : Nat) (wa : World) (g rc : Nat) (o : Obj) => mat_snoc (w6 := w6) (D6 := D6) (c6 := c6) (wa := wa) (g := g) (rc := rc) (o := o) ho hs hz (by omega))
      have HR := Lib.hid (fun q hq => (row_ge ho q hq).1)
      have HH := Lib.hid ho
      clear hv hs ho HO
      go_wp2_with fail
      refine (l1Own_any V m cv _ _ HV.out (by omega)).mono ?_
      rintro e w5 ⟨V5, c5, rfl, o5, b5⟩
      obtain ⟨g5, rfl, _, _⟩ := o5.own.head (by omega)
      have hoB := row_below HH.out b5
      have s5 := b5.size
      have HO5 := Lib.hid o5.own
      have HB5 := Lib.hid b5
      have HBB := Lib.hid (HB.out.trans (b5.mono hz))
      clear o5 b5 c0
      go_wp2_with (at_builtin; refine wp_appII1 rfl _ _ rfl w.heap.size D k cD ys rfl hoB _ rfl rfl rfl (by omega) (by omega) ?_; intro D6 c6 w6 hown6 hg6; have HM6 := Lib.hid (HS.out w6 D6 c6 w5 g5 c5 _ HB5.out HO5.out (by omega) hown6 hg6); have HB6 := Lib.hid (HBB.out.grown (grownBy_trans (World.grownBy_alloc w5 _ _) hg6) (by omega) HR.out); clear hown6 hg6)
      go_roundw
      case rel => exact ⟨k + 1, D6, c6, by omega, by go_num, rfl, HM6, HB6⟩
      case measure => simp [intOf]; omega
    · obtain rfl : k = n := by omega
      go_wp2
      go_ret
      exact ⟨D, cD, rfl, HO.out, HB.out⟩
end

section
open Go.RowKit Flo

def shB (n m : Nat) (L : Nat → List Int) : Bool := allTo (fun i => decide ((L i).length = m)) n
def gridB (n : Nat) (L : Nat → List Int) (most : Int) : Bool := decide (1 ≤ n) && (decide (1 ≤ (L 0).length) && (shB n (L 0).length L && allTo (fun i => allR (L i) 0 most) n))
def mxB (n : Nat) (L : Nat → List Int) : Bool := decide (1 ≤ n) && (decide (n ≤ 7) && (decide ((L 0).length ≤ 7) && gridB n L 10000))
theorem shB_no {n m i : Nat} {L : Nat → List Int} (hi : i < n) (h : (L i).length ≠ m) : shB n m L = false := allTo_no (i := i) hi (decide_eq_false h)
theorem shB_yes {n m : Nat} {L : Nat → List Int} (h : ∀ i, i < n → (L i).length = m) : shB n m L = true := allTo_yes fun i hi => decide_eq_true (h i hi)
theorem shB_of {n m : Nat} {L : Nat → List Int} (h : shB n m L = true) : ∀ i, i < n → (L i).length = m := fun i hi => of_decide_eq_true (allTo_of h i hi)
theorem allR_yes {xs : List Int} {lo hi : Int} (h : ∀ k, k < xs.length → inR (xs[k]?.getD 0) lo hi = true) : allR xs lo hi = true := by
  unfold allR
  rw [List.all_eq_true]
  intro x hx
  obtain ⟨k, hk, rfl⟩ := List.mem_iff_getElem.1 hx
  have := h k hk
  rw [List.getElem?_eq_getElem hk] at this
  exact this
theorem gridB_no1 {n : Nat} {L : Nat → List Int} {most : Int} (h : n = 0) : gridB n L most = false := by unfold gridB; rw [decide_eq_false (by omega)]; rfl
theorem gridB_no2 {n : Nat} {L : Nat → List Int} {most : Int} (h : (L 0).length = 0) : gridB n L most = false := by unfold gridB; rw [decide_eq_false (p := 1 ≤ (L 0).length) (by omega)]; simp
theorem gridB_no3 {n : Nat} {L : Nat → List Int} {most : Int} (h : shB n (L 0).length L = false) : gridB n L most = false := by unfold gridB; rw [h]; simp
theorem gridB_no4 {n i : Nat} {L : Nat → List Int} {most : Int} (hi : i < n) (h : allR (L i) 0 most = false) : gridB n L most = false := by unfold gridB; rw [allTo_no (p := fun i => allR (L i) 0 most) hi h]; simp
theorem gridB_yes {n : Nat} {L : Nat → List Int} {most : Int} (h1 : n ≠ 0) (h2 : (L 0).length ≠ 0) (h3 : shB n (L 0).length L = true) (h4 : ∀ i, i < n → allR (L i) 0 most = true) : gridB n L most = true := by
  unfold gridB; rw [decide_eq_true (by omega), decide_eq_true (p := 1 ≤ (L 0).length) (by omega), h3, allTo_yes h4]; rfl
/-- What a valid matrix is. -/
theorem mxB_of {n : Nat} {L : Nat → List Int} (h : mxB n L = true) : 1 ≤ n ∧ n ≤ 7 ∧ 1 ≤ (L 0).length ∧ (L 0).length ≤ 7 ∧ (∀ i, i < n → (L i).length = (L 0).length) ∧ ∀ i j, i < n → j < (L 0).length → 0 ≤ (L i)[j]?.getD 0 ∧ (L i)[j]?.getD 0 ≤ 10000 := by
  unfold mxB gridB at h
  simp only [Bool.and_eq_true, decide_eq_true_eq] at h
  obtain ⟨h1, h2, h3, _, h4, h5, h6⟩ := h
  have h7 := shB_of h5
  exact ⟨h1, h2, h4, h3, h7, fun i j hi hj => allR_of (allTo_of h6 i hi) j (by rw [h7 i hi]; exact hj)⟩

set_option maxRecDepth 100000 in
set_option maxHeartbeats 2000000 in
theorem hasShape_any (A : Option Addr) (n c r k : Nat) (L : Nat → List Int) (w : World) (h : IntsS w A n L) (hn : n ≤ 1099511627776) :
    Calls Try.prog 52 #[.slice A n c, .int .i64 r, .int .i64 k] w fun e w' => e = .returned (.bool (decide (n = r) && shB n k L)) ∧ w = w' := by
  obtain ⟨O, hO⟩ : ∃ O, (decide (n = r) && shB n k L) = O := ⟨_, rfl⟩
  rw [hO]
  by_cases hr : n = r
  case neg =>
    have hd : ((n : Int) != (r : Int)) = true := by simp; omega
    rw [decide_eq_false hr, Bool.false_and] at hO
    subst hO
    clear hr
    go_enter Try.func52, Try.ntmps52
    go_wp2
    go_ret
    exact ⟨rfl, rfl⟩
  case pos =>
    have hd : ((n : Int) != (r : Int)) = false := by simp; omega
    rw [decide_eq_true hr, Bool.true_and] at hO
    have HO := Lib.hid hO
    have HR := Lib.hid hr
    clear hO hr
    go_enter Try.func52, Try.ntmps52
    go_wp2
    clear hd
    go_loopw [15] (fun i wr => ∃ (j : Nat), j ≤ n ∧ i = .int .i64 j ∧ w = wr ∧ Hid (∀ t, t < j → (L t).length = k)) (fun i _ => n - (intOf i).toNat)
    case atStart => exact ⟨0, Nat.zero_le _, rfl, rfl, Lib.hid (fun t ht => absurd ht (by omega))⟩
    case round =>
      obtain ⟨j, hj, rfl, rfl, HP⟩ := hrel
      by_cases hlt : j < n
      · obtain ⟨ad, rfl, V, cv, c0, _⟩ := h.at_ hlt
        by_cases he : (L j).length = k
        · have hd : (((L j).length : Int) != (k : Int)) = false := by simp; omega
          have HP1 : Hid (∀ t, t < j + 1 → (L t).length = k) := Lib.hid (fun t ht => by
            rcases Nat.lt_or_ge t j with h1 | h1
            · exact HP.out t h1
            · obtain rfl : t = j := by omega
              exact he)
          clear HP he h
          generalize (L j).length = m at *
          go_wp2
          go_roundw
          case rel => exact ⟨j + 1, by omega, by go_num, trivial, HP1⟩
          case measure => simp [intOf]; omega
        · have hd : (((L j).length : Int) != (k : Int)) = true := by simp; omega
          obtain rfl : O = false := HO.out.symm.trans (shB_no hlt he)
          clear HP he h HO
          generalize (L j).length = m at *
          go_wp2
          go_ret
          exact ⟨rfl, rfl⟩
      · obtain rfl : j = n := by omega
        obtain rfl : O = true := HO.out.symm.trans (shB_yes HP.out)
        clear HP HO
        go_wp2
        go_ret
        exact ⟨rfl, rfl⟩

set_option maxRecDepth 100000 in
set_option maxHeartbeats 2000000 in
theorem isGridOf_any (A : Option Addr) (n c : Nat) (most : Int) (L : Nat → List Int) (w : World) (h : IntsS w A n L) (hn : n ≤ 1099511627776) (hL : ∀ j, j < n → (L j).length ≤ 1099511627776) :
    Calls Try.prog 56 #[.slice A n c, .int .i64 most] w fun e w' => e = .returned (.bool (gridB n L most)) ∧ w = w' := by
  obtain ⟨O, hO⟩ : ∃ O, gridB n L most = O := ⟨_, rfl⟩
  rw [hO]
  have HO := Lib.hid hO
  have H := Lib.hid h
  have HL := Lib.hid hL
  clear hO hL h
  by_cases h0 : n = 0
  case pos =>
    have hd : ((n : Int) == 0) = true := by rw [h0]; rfl
    go_enter Try.func56, Try.ntmps56
    obtain rfl : O = false := HO.out.symm.trans (gridB_no1 h0)
    clear HO h0
    go_wp2
    go_ret
    exact ⟨rfl, rfl⟩
  case neg =>
    have hd : ((n : Int) == 0) = false := by rw [beq_eq_false_iff_ne]; omega
    have hnp : (0 : Int) < (n : Int) := by omega
    obtain ⟨ad, rfl, V0, cv0, r0, _⟩ := H.out.at_ (show 0 < n by omega)
    have r0 : w.cell? ad = some (.slice V0 (L 0).length cv0) := by simpa [Addr.add] using r0
    by_cases h1 : (L 0).length = 0
    case pos =>
      have hd1 : (((L 0).length : Int) == 0) = true := by rw [h1]; rfl
      have HZ := Lib.hid h1
      clear h1
      obtain rfl : O = false := HO.out.symm.trans (gridB_no2 HZ.out)
      clear HO HZ HL
      generalize (L 0).length = m at *
      go_enter Try.func56, Try.ntmps56
      go_wp2
      go_ret
      exact ⟨rfl, rfl⟩
    case neg =>
      have hd1 : (((L 0).length : Int) == 0) = false := by rw [beq_eq_false_iff_ne]; omega
      obtain ⟨m, hm⟩ : ∃ m, Hid ((L 0).length = m) := ⟨_, Lib.hid rfl⟩
      have HNZ := Lib.hid h1
      have HN0 := Lib.hid h0
      rw [hm.out] at r0 hd1
      clear h1 h0
      go_enter Try.func56, Try.ntmps56
      go_wp2_with fail
      refine (hasShape_any _ n c n m L _ H.out hn).mono ?_
      rintro e w1 ⟨rfl, rfl⟩
      have HD : Hid (decide (n = n) = true) := Lib.hid (by simp)
      rw [HD.out, Bool.true_and]
      clear r0 hd1
      cases hsh : shB n m L
      case false =>
        obtain rfl : O = false := HO.out.symm.trans (gridB_no3 (by rw [hm.out]; exact hsh))
        clear HO hsh
        go_wp2
        go_ret
        exact ⟨rfl, rfl⟩
      case true =>
        have HS := Lib.hid (shB_of hsh)
        have HSH := Lib.hid hsh
        clear hsh
        go_wp2
        clear hd
        go_loopw [32] (fun i wr => ∃ (j : Nat), j ≤ n ∧ i = .int .i64 j ∧ w = wr ∧ Hid (∀ t, t < j → allR (L t) 0 most = true)) (fun i _ => n - (intOf i).toNat)
        case atStart => exact ⟨0, Nat.zero_le _, rfl, rfl, Lib.hid (fun t ht => absurd ht (by omega))⟩
        case round =>
          obtain ⟨j, hj, rfl, rfl, HP⟩ := hrel
          by_cases hlt : j < n
          · obtain ⟨ad', e', V, cv, c0, hv⟩ := H.out.at_ hlt
            obtain rfl : ad = ad' := Option.some.inj e'
            have HV := Lib.hid hv
            have hle := HL.out j hlt
            have HE := Lib.hid (HS.out j hlt)
            rw [HE.out] at c0 hle
            clear hv e'
            go_wp2_with fail
            clear c0
            go_loopw [38] (fun i wr => ∃ (q : Nat), q ≤ m ∧ i = .int .i64 q ∧ w = wr ∧ Hid (∀ t, t < q → inR ((L j)[t]?.getD 0) 0 most = true)) (fun i _ => m - (intOf i).toNat)
            case atStart => exact ⟨0, Nat.zero_le _, rfl, rfl, Lib.hid (fun t ht => absurd ht (by omega))⟩
            case round =>
              obtain ⟨q, hq, rfl, rfl, HQ⟩ := hrel
              by_cases hlq : q < m
              · obtain ⟨av, rfl, cq⟩ := HV.out.at_ (show q < (L j).length by rw [HE.out]; exact hlq)
                have R1 := Lib.hid (allR_no (lo := 0) (hi := most) (k := q) (xs := L j) (by rw [HE.out]; exact hlq))
                obtain ⟨x, hxe⟩ : ∃ x, (L j)[q]?.getD 0 = x := ⟨_, rfl⟩
                have HQ1 : Hid (inR x 0 most = true → ∀ t, t < q + 1 → inR ((L j)[t]?.getD 0) 0 most = true) := Lib.hid (fun hx t ht => by
                  rcases Nat.lt_or_ge t q with h1 | h1
                  · exact HQ.out t h1
                  · obtain rfl : t = q := by omega
                    rw [hxe]; exact hx)
                rw [hxe] at cq R1
                clear hxe HQ
                by_cases hx0 : x < 0
                · have d0 : decide (x < 0) = true := decide_eq_true hx0
                  obtain rfl : O = false := HO.out.symm.trans (gridB_no4 hlt (R1.out (inR_no (by omega))))
                  clear HO R1 HQ1 hx0
                  go_wp2
                  go_ret
                  exact ⟨rfl, rfl⟩
                · have d0 : decide (x < 0) = false := decide_eq_false hx0
                  by_cases hx1 : most < x
                  · have d1 : decide (most < x) = true := decide_eq_true hx1
                    obtain rfl : O = false := HO.out.symm.trans (gridB_no4 hlt (R1.out (inR_no (by omega))))
                    clear HO R1 HQ1 hx0 hx1
                    go_wp2
                    go_ret
                    exact ⟨rfl, rfl⟩
                  · have d1 : decide (most < x) = false := decide_eq_false hx1
                    have HQ2 := Lib.hid (HQ1.out (inR_yes (by omega) (by omega)))
                    clear R1 HQ1 hx0 hx1
                    go_wp2
                    go_roundw
                    case rel => exact ⟨q + 1, by omega, by go_num, trivial, HQ2⟩
                    case measure => simp [intOf]; omega
              · obtain rfl : q = m := by omega
                have HP1 : Hid (∀ t, t < j + 1 → allR (L t) 0 most = true) := Lib.hid (fun t ht => by
                  rcases Nat.lt_or_ge t j with h1 | h1
                  · exact HP.out t h1
                  · obtain rfl : t = j := by omega
                    exact allR_yes (fun k hk => HQ.out k (by rw [← HE.out]; exact hk)))
                clear HP HQ
                go_wp2
                go_roundw
                case rel => exact ⟨j + 1, by omega, by go_num, trivial, HP1⟩
                case measure => simp [intOf]; omega
          · obtain rfl : j = n := by omega
            obtain rfl : O = true := HO.out.symm.trans (gridB_yes HN0.out HNZ.out (by rw [hm.out]; exact HSH.out) HP.out)
            clear HP HO
            go_wp2
            go_ret
            exact ⟨rfl, rfl⟩

set_option maxRecDepth 100000 in
set_option maxHeartbeats 2000000 in
theorem isMatrix_any (A : Option Addr) (n c : Nat) (L : Nat → List Int) (w : World) (h : IntsS w A n L) (hn : n ≤ 1099511627776) (hL : ∀ j, j < n → (L j).length ≤ 1099511627776) :
    Calls Try.prog 36 #[.slice A n c] w fun e w' => e = .returned (.bool (mxB n L)) ∧ w = w' := by
  obtain ⟨O, hO⟩ : ∃ O, mxB n L = O := ⟨_, rfl⟩
  rw [hO]
  have HO := Lib.hid hO
  have H := Lib.hid h
  have HL := Lib.hid hL
  clear hO hL h
  by_cases h0 : n < 1
  case pos =>
    have hd : decide ((n : Int) < 1) = true := by simp; omega
    obtain rfl : O = false := HO.out.symm.trans (by unfold mxB; rw [decide_eq_false (by omega)]; rfl)
    clear HO h0
    go_enter Try.func36, Try.ntmps36
    go_wp2
    go_ret
    exact ⟨rfl, rfl⟩
  case neg =>
    have hd : decide ((n : Int) < 1) = false := by simp; omega
    by_cases h7 : 7 < n
    case pos =>
      have hd1 : decide ((7 : Int) < (n : Int)) = true := by simp; omega
      obtain rfl : O = false := HO.out.symm.trans (by unfold mxB; rw [decide_eq_false (p := n ≤ 7) (by omega)]; simp)
      clear HO h0 h7
      go_enter Try.func36, Try.ntmps36
      go_wp2
      go_ret
      exact ⟨rfl, rfl⟩
    case neg =>
      have hd1 : decide ((7 : Int) < (n : Int)) = false := by simp; omega
      have hnp : (0 : Int) < (n : Int) := by omega
      obtain ⟨ad, rfl, V0, cv0, r0, _⟩ := H.out.at_ (show 0 < n by omega)
      have r0 : w.cell? ad = some (.slice V0 (L 0).length cv0) := by simpa [Addr.add] using r0
      obtain ⟨m, hm⟩ : ∃ m, Hid ((L 0).length = m) := ⟨_, Lib.hid rfl⟩
      rw [hm.out] at r0
      by_cases h8 : 7 < m
      case pos =>
        have hd2 : decide ((7 : Int) < (m : Int)) = true := by simp; omega
        obtain rfl : O = false := HO.out.symm.trans (by unfold mxB; rw [hm.out, decide_eq_false (p := m ≤ 7) (by omega)]; simp)
        clear HO h0 h7 h8
        go_enter Try.func36, Try.ntmps36
        go_wp2
        go_ret
        exact ⟨rfl, rfl⟩
      case neg =>
        have hd2 : decide ((7 : Int) < (m : Int)) = false := by simp; omega
        have HG : Hid (gridB n L 10000 = O) := Lib.hid (by rw [← HO.out]; unfold mxB; rw [hm.out, decide_eq_true (p := 1 ≤ n) (by omega), decide_eq_true (p := n ≤ 7) (by omega), decide_eq_true (p := m ≤ 7) (by omega)]; rfl)
        clear h0 h7 h8 HO
        go_enter Try.func36, Try.ntmps36
        go_wp2_with fail
        refine (isGridOf_any _ n c 10000 L _ H.out hn HL.out).mono ?_
        rintro e w1 ⟨rfl, rfl⟩
        rw [HG.out]
        go_wp2
        go_ret
        exact ⟨rfl, rfl⟩
end

section
open Go.RowKit Flo

theorem mxB_no1 {n : Nat} {L : Nat → List Int} (h : inR (n : Int) 1 7 = false) : mxB n L = false := by
  cases e : mxB n L
  · rfl
  · obtain ⟨h1, h2, _⟩ := mxB_of e
    rw [inR_yes (by omega) (by omega)] at h; cases h
theorem mxB_no2 {n : Nat} {L : Nat → List Int} (h : inR ((L 0).length : Int) 1 7 = false) : mxB n L = false := by
  cases e : mxB n L
  · rfl
  · obtain ⟨_, _, h1, h2, _⟩ := mxB_of e
    rw [inR_yes (by omega) (by omega)] at h; cases h
theorem mxB_no3 {n i : Nat} {L : Nat → List Int} (hi : i < n) (h : (L i).length ≠ (L 0).length) : mxB n L = false := by
  cases e : mxB n L
  · rfl
  · obtain ⟨_, _, _, _, h1, _⟩ := mxB_of e
    exact absurd (h1 i hi) h
theorem mxB_no4 {n i : Nat} {L : Nat → List Int} (hi : i < n) (h : allR (L i) 0 10000 = false) : mxB n L = false := by
  unfold mxB
  rw [gridB_no4 hi h]; simp
theorem mxB_yes {n : Nat} {L : Nat → List Int} (h1 : inR (n : Int) 1 7 = true) (h2 : inR ((L 0).length : Int) 1 7 = true) (h3 : ∀ i, i < n → (L i).length = (L 0).length ∧ allR (L i) 0 10000 = true) : mxB n L = true := by
  have a1 := inR_of h1
  have a2 := inR_of h2
  unfold mxB
  rw [decide_eq_true (by omega), decide_eq_true (p := n ≤ 7) (by omega), decide_eq_true (p := (L 0).length ≤ 7) (by omega), gridB_yes (by omega) (by omega) (shB_yes fun i hi => (h3 i hi).1) (fun i hi => (h3 i hi).2)]; rfl

set_option maxRecDepth 100000 in
set_option maxHeartbeats 2000000 in
theorem oMatrix_any (A : Option Addr) (n c : Nat) (L : Nat → List Int) (w : World) (h : IntsS w A n L) (hn : n ≤ 1099511627776) (hL : ∀ j, j < n → (L j).length ≤ 1099511627776) :
    Calls Try.prog 61 #[.slice A n c] w fun e w' => e = .returned (.bool (mxB n L)) ∧ w = w' := by
  obtain ⟨O, hO⟩ : ∃ O, mxB n L = O := ⟨_, rfl⟩
  rw [hO]
  have HO := Lib.hid hO
  have H := Lib.hid h
  have HL := Lib.hid hL
  clear hO hL h
  go_enter Try.func61, Try.ntmps61
  go_wp2_with fail
  refine (l1In_any _ _ _ _).mono ?_
  rintro e w' ⟨rfl, rfl⟩
  cases hB1 : inR (n : Int) 1 7
  case false =>
    obtain rfl : O = false := HO.out.symm.trans (mxB_no1 hB1)
    clear HO hB1
    go_wp2
    go_ret
    exact ⟨rfl, rfl⟩
  case true =>
    have hn7 := inR_of hB1
    have HB1 := Lib.hid hB1
    have hnp : (0 : Int) < (n : Int) := by omega
    obtain ⟨ad, rfl, V0, cv0, r0, _⟩ := H.out.at_ (show 0 < n by omega)
    have r0 : w.cell? ad = some (.slice V0 (L 0).length cv0) := by simpa [Addr.add] using r0
    obtain ⟨m, hm⟩ : ∃ m, Hid ((L 0).length = m) := ⟨_, Lib.hid rfl⟩
    rw [hm.out] at r0
    clear hB1
    go_wp2_with fail
    refine (l1In_any _ _ _ _).mono ?_
    rintro e w' ⟨rfl, rfl⟩
    cases hB2 : inR (m : Int) 1 7
    case false =>
      obtain rfl : O = false := HO.out.symm.trans (mxB_no2 (by rw [hm.out]; exact hB2))
      clear HO hB2
      go_wp2
      go_ret
      exact ⟨rfl, rfl⟩
    case true =>
      have hm7 := inR_of hB2
      have HB2 : Hid (inR ((L 0).length : Int) 1 7 = true) := Lib.hid (by rw [hm.out]; exact hB2)
      clear hB2
      go_wp2
      go_loopw [19] (fun i wr => ∃ (j : Nat), j ≤ n ∧ i = .int .i64 j ∧ w = wr ∧ Hid (∀ t, t < j → (L t).length = (L 0).length ∧ allR (L t) 0 10000 = true)) (fun i _ => n - (intOf i).toNat)
      case atStart => exact ⟨0, Nat.zero_le _, rfl, rfl, Lib.hid (fun t ht => absurd ht (by omega))⟩
      case round =>
        obtain ⟨j, hj, rfl, rfl, HP⟩ := hrel
        by_cases hlt : j < n
        · obtain ⟨ad', e', V, cv, c0, hv⟩ := H.out.at_ hlt
          obtain rfl : ad = ad' := Option.some.inj e'
          have HV := Lib.hid hv
          have hle := HL.out j hlt
          have HP1 : Hid ((L j).length = (L 0).length ∧ allR (L j) 0 10000 = true → ∀ t, t < j + 1 → (L t).length = (L 0).length ∧ allR (L t) 0 10000 = true) := Lib.hid (fun hx t ht => by
            rcases Nat.lt_or_ge t j with h1 | h1
            · exact HP.out t h1
            · obtain rfl : t = j := by omega
              exact hx)
          clear HP e' hv
          by_cases hne : (L j).length = m
          case neg =>
            have hd : (((L j).length : Int) != (m : Int)) = true := by simp; omega
            obtain rfl : O = false := HO.out.symm.trans (mxB_no3 hlt (by rw [hm.out]; exact hne))
            clear HO HP1 hne HV HB1 HB2
            generalize (L j).length = k at *
            go_wp2
            go_ret
            exact ⟨rfl, rfl⟩
          case pos =>
            have HE := Lib.hid hne
            have hd : ((m : Int) != (m : Int)) = false := by simp
            have HV2 : Hid (Ints w V m (L j)) := Lib.hid (by have := HV.out; rw [HE.out] at this; exact this)
            rw [hne] at c0 hle
            clear hne HV
            go_wp2_with fail
            refine (l1All_any V m cv (L j) 0 10000 _ HV2.out (by omega)).mono ?_
            rintro e w' ⟨rfl, rfl⟩
            cases hA : allR (L j) 0 10000
            case false =>
              obtain rfl : O = false := HO.out.symm.trans (mxB_no4 hlt hA)
              clear HO hA HP1 HB1 HB2
              go_wp2
              go_ret
              exact ⟨rfl, rfl⟩
            case true =>
              have HP2 := Lib.hid (HP1.out ⟨by rw [hm.out]; exact HE.out, hA⟩)
              clear hA HP1
              go_wp2
              go_roundw
              case rel => exact ⟨j + 1, by omega, by go_num, trivial, HP2⟩
              case measure => simp [intOf]; omega
        · obtain rfl : j = n := by omega
          obtain rfl : O = true := HO.out.symm.trans (mxB_yes HB1.out HB2.out HP.out)
          clear HP HO HB1 HB2
          go_wp2
          go_ret
          exact ⟨rfl, rfl⟩

set_option maxRecDepth 100000 in
set_option maxHeartbeats 2000000 in
theorem oGood_any (A : Option Addr) (n c : Nat) (b : Int) (L : Nat → List Int) (w : World) (h : IntsS w A n L) (hn : n ≤ 1099511627776) (hL : ∀ j, j < n → (L j).length ≤ 1099511627776) :
    Calls Try.prog 25 #[.slice A n c, .int .i64 b] w fun e w' => e = .returned (.bool (inR b 2 100 && mxB n L)) ∧ w = w' := by
  have H := Lib.hid h
  have HL := Lib.hid hL
  clear hL h
  go_enter Try.func25, Try.ntmps25
  go_wp2_with fail
  refine (l1In_any _ _ _ _).mono ?_
  rintro e w' ⟨rfl, rfl⟩
  cases hB1 : inR b 2 100
  case false =>
    go_wp2
    go_ret
    exact ⟨by rw [hB1]; rfl, rfl⟩
  case true =>
    go_wp2_with fail
    refine (oMatrix_any A n c L _ H.out hn HL.out).mono ?_
    rintro e w' ⟨rfl, rfl⟩
    go_wp2
    go_ret
    exact ⟨by rw [hB1, Bool.true_and]; rfl, rfl⟩

set_option maxRecDepth 100000 in
set_option maxHeartbeats 2000000 in
theorem isBaseOf_any (b : Int) (w : World) :
    Calls Try.prog 37 #[.int .i64 b] w fun e w' => e = .returned (.bool (inR b 2 100)) ∧ w = w' := by
  by_cases h1 : 2 ≤ b
  · have d1 : decide (2 ≤ b) = true := decide_eq_true h1
    by_cases h2 : b ≤ 100
    · have d2 : decide (b ≤ 100) = true := decide_eq_true h2
      rw [inR_yes h1 h2]
      go_enter Try.func37, Try.ntmps37
      go_wp2
      go_ret
      exact ⟨rfl, rfl⟩
    · have d2 : decide (b ≤ 100) = false := decide_eq_false h2
      rw [inR_no (by omega)]
      go_enter Try.func37, Try.ntmps37
      go_wp2
      go_ret
      exact ⟨rfl, rfl⟩
  · have d1 : decide (2 ≤ b) = false := decide_eq_false h1
    rw [inR_no (by omega)]
    go_enter Try.func37, Try.ntmps37
    go_wp2
    go_ret
    exact ⟨rfl, rfl⟩
end
end Go.Proofs.Ytcjmapdeopffcaa
