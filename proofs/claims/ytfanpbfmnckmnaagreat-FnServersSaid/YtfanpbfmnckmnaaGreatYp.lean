/- Several small texts in one: DgD, DgE, DgF. -/
import Derived.Test.YtfanpbfmnckmnaaGreatYo
import Derived.Test.YtfanpbfmnckmnaaGreatYl
import Derived.Test.YtfanpbfmnckmnaaGreatSrvA
import Derived.Deep.RegionHeld3
namespace Go.Proofs.YtfanpbfmnckmnaaGreat

section
open Go.RowKit

/-- A drawn list of n ints. -/
def DIntN (g L n : Nat) (w : World) (e : Ending) (w' : World) : Prop := ∃ (A : Option Addr) (c : Nat) (xs : List Int), e = .returned (.slice A n c) ∧ OwnI w' w.heap.size w'.heap.size A n c xs ∧ Cur w' g L ∧ Chg g (g + 1) w w'

set_option maxRecDepth 100000 in
set_option maxHeartbeats 4000000 in
theorem where_any (g L lo n c : Nat) (A : Option Addr) (vs : List (ByteArray × Int)) (w : World) (h : Cur w g L) (hL : L ≤ 600000) (hs : DVr w lo A n c vs) (hlo : g < lo) (hn : n ≤ 8) (hsv : SchV vs) :
    Calls Tryz.prog 210 #[.pointer (some ⟨g, 0, none⟩), .slice A n c] w (DIntN g (L + 32) n w) := by
  have hlt := h.lt
  have hlen := hs.len
  have HSV := Lib.hid (fun j (hj : j < n) => (hsv j (by rw [hlen]; exact hj)).2)
  have HS := Lib.hid hs
  clear hs hlen hsv
  go_enter Tryz.func210, Tryz.ntmps210
  go_wp2_with fail
  go_loopw [5, 11] (fun a i wr => ∃ (k : Nat) (E : Option Addr) (c3 : Nat) (xs : List Int), k ≤ n ∧ i = .int .i64 k ∧ a = .slice E k c3 ∧ OwnI wr w.heap.size wr.heap.size E k c3 xs ∧ Cur wr g (L + 4 * k) ∧ Chg g (g + 1) w wr) (fun _ i _ => n - (intOf i).toNat)
  case atStart => exact ⟨0, none, 0, [], Nat.zero_le _, rfl, rfl, ⟨Own.nil_, (fun k hk => by cases hk), by omega⟩, h.mono (by omega), Chg.refl _ _ _⟩
  case round =>
    clear h
    obtain ⟨k, E, c3, xs, hk, rfl, rfl, hO, hc, hG⟩ := hrel
    obtain ⟨wo, rfl⟩ : ∃ wo : World, wo = wr := ⟨_, rfl⟩
    have hz := hG.size
    by_cases hlt2 : k < n
    · obtain ⟨ad, rfl, c0, c1⟩ := ((HS.out.chg hG hlo).vars (by omega)).at_ hlt2
      obtain ⟨l0, l1⟩ := HSV.out k hlt2
      obtain ⟨y, hye⟩ : ∃ y, vL vs k = y := ⟨_, rfl⟩
      obtain ⟨s, hse⟩ : ∃ s, vN vs k = s := ⟨_, rfl⟩
      rw [hye] at c1 l0 l1
      rw [hse] at c0
      have b1 := below_new wo (.cells #[.string s, .int .i64 y] 133)
      have hc1 := hc.below b1
      have hG1 := hG.then_ b1
      have hO1 := hO.below b1
      have hz1 := b1.size
      have x1 := box_new wo #[.string s, .int .i64 y] 133
      clear hye hse hc hG b1
      go_wp2_with fail
      generalize wo.alloc (.cells #[.string s, .int .i64 y] 133) = w1 at *
      refine (one_any g _ _ _ hc1 (by omega) (by omega)).mono ?_
      rintro e w5 ⟨b, rfl, hc5, hg5⟩
      have hO5 := hO1.chg hg5 (by omega)
      have hG5 := hG1.trans hg5
      have hz5 := hg5.size
      have x5 := box_chg x1 hg5 (by omega)
      clear hc1 hG1 hO1 hg5 c0 c1 x1
      cases b
      · clear x5 l0 l1
        go_wp2_with (at_builtin; refine wp_app1 rfl _ _ rfl w.heap.size E k c3 _ rfl hO5.own _ rfl rfl (by omega) (by omega) ?_; intro A3 c4 w9 hown9 hg9 _)
        have hrow : ∀ j, rowOf E = some j → w.heap.size ≤ j := fun j hj => (hO5.row j hj).1
        have hc9 := cur_app hc5 hg9 (fun j hj => by have := hrow j hj; omega)
        have hG9 := chg_app hG5 hg9 hrow
        have hO9 := OwnI.of_own hown9 (by omega)
        clear hO5 hc5 hG5 hg9 hown9 hO
        go_roundw
        case rel => exact ⟨k + 1, A3, c4, _, by omega, by go_num, rfl, hO9, hc9.mono (by omega), hG9⟩
        case measure => simp [intOf]; omega
      · rcases (by omega : y = 2 ∨ y = 3 ∨ y = 4) with rfl | rfl | rfl
        · have q1 := bxc x5 1 _ rfl
          clear x5 l0 l1
          go_wp2_with fail
          refine (pick_any g _ _ _ hc5 (by omega) (by omega)).mono ?_
          rintro e w6 ⟨u, rfl, hu0, hu1, hc6, hg6⟩
          replace hu1 : u ≤ 2 := by simpa using hu1
          have hO6 := hO5.chg hg6 (by omega)
          have hG6 := hG5.trans hg6
          have hz6 := hg6.size
          clear hc5 hG5 hO5 hg6 q1
          go_wp2_with (at_builtin; refine wp_app1 rfl _ _ rfl w.heap.size E k c3 _ rfl hO6.own _ rfl rfl (by omega) (by omega) ?_; intro A3 c4 w9 hown9 hg9 _)
          have hrow : ∀ j, rowOf E = some j → w.heap.size ≤ j := fun j hj => (hO6.row j hj).1
          have hc9 := cur_app hc6 hg9 (fun j hj => by have := hrow j hj; omega)
          have hG9 := chg_app hG6 hg9 hrow
          have hO9 := OwnI.of_own hown9 (by omega)
          clear hO6 hc6 hG6 hg9 hown9 hO
          go_roundw
          case rel => exact ⟨k + 1, A3, c4, _, by omega, by go_num, rfl, hO9, hc9.mono (by omega), hG9⟩
          case measure => simp [intOf]; omega
        · have q1 := bxc x5 1 _ rfl
          clear x5 l0 l1
          go_wp2_with fail
          refine (pick_any g _ _ _ hc5 (by omega) (by omega)).mono ?_
          rintro e w6 ⟨u, rfl, hu0, hu1, hc6, hg6⟩
          replace hu1 : u ≤ 6 := by simpa using hu1
          have hO6 := hO5.chg hg6 (by omega)
          have hG6 := hG5.trans hg6
          have hz6 := hg6.size
          clear hc5 hG5 hO5 hg6 q1
          go_wp2_with (at_builtin; refine wp_app1 rfl _ _ rfl w.heap.size E k c3 _ rfl hO6.own _ rfl rfl (by omega) (by omega) ?_; intro A3 c4 w9 hown9 hg9 _)
          have hrow : ∀ j, rowOf E = some j → w.heap.size ≤ j := fun j hj => (hO6.row j hj).1
          have hc9 := cur_app hc6 hg9 (fun j hj => by have := hrow j hj; omega)
          have hG9 := chg_app hG6 hg9 hrow
          have hO9 := OwnI.of_own hown9 (by omega)
          clear hO6 hc6 hG6 hg9 hown9 hO
          go_roundw
          case rel => exact ⟨k + 1, A3, c4, _, by omega, by go_num, rfl, hO9, hc9.mono (by omega), hG9⟩
          case measure => simp [intOf]; omega
        · have q1 := bxc x5 1 _ rfl
          clear x5 l0 l1
          go_wp2_with fail
          refine (pick_any g _ _ _ hc5 (by omega) (by omega)).mono ?_
          rintro e w6 ⟨u, rfl, hu0, hu1, hc6, hg6⟩
          replace hu1 : u ≤ 14 := by simpa using hu1
          have hO6 := hO5.chg hg6 (by omega)
          have hG6 := hG5.trans hg6
          have hz6 := hg6.size
          clear hc5 hG5 hO5 hg6 q1
          go_wp2_with (at_builtin; refine wp_app1 rfl _ _ rfl w.heap.size E k c3 _ rfl hO6.own _ rfl rfl (by omega) (by omega) ?_; intro A3 c4 w9 hown9 hg9 _)
          have hrow : ∀ j, rowOf E = some j → w.heap.size ≤ j := fun j hj => (hO6.row j hj).1
          have hc9 := cur_app hc6 hg9 (fun j hj => by have := hrow j hj; omega)
          have hG9 := chg_app hG6 hg9 hrow
          have hO9 := OwnI.of_own hown9 (by omega)
          clear hO6 hc6 hG6 hg9 hown9 hO
          go_roundw
          case rel => exact ⟨k + 1, A3, c4, _, by omega, by go_num, rfl, hO9, hc9.mono (by omega), hG9⟩
          case measure => simp [intOf]; omega
    · obtain rfl : n = k := by omega
      go_wp2
      go_ret
      exact ⟨E, c3, xs, rfl, hO, hc.mono (by omega), hG⟩

theorem loss_ok : ∀ d : Fin 7, ∀ k : Fin 4, 1 ≤ d.val → fracB (fN (redO ((d.val : Int) + k.val) d.val)) (fD (redO ((d.val : Int) + k.val) d.val)) = true := by decide +kernel
theorem loss_ok2 : ∀ n : Fin 5, ∀ d : Fin 9, 1 ≤ d.val → fracB (fN (redO (n.val : Int) d.val)) (fD (redO (n.val : Int) d.val)) = true := by decide +kernel
theorem loss_okL {d k n e : Int} (h1 : 1 ≤ d) (h2 : d ≤ 6) (h3 : 0 ≤ k) (h4 : k ≤ 3) (h5 : 0 ≤ n) (h6 : n ≤ 4) (h7 : 1 ≤ e) (h8 : e ≤ 8) : LosOk ⟨fN (redO (d + k) d), fD (redO (d + k) d), fN (redO n e), fD (redO n e)⟩ := by
  obtain ⟨d, rfl⟩ := Int.eq_ofNat_of_zero_le (show 0 ≤ d by omega)
  obtain ⟨k, rfl⟩ := Int.eq_ofNat_of_zero_le h3
  obtain ⟨n, rfl⟩ := Int.eq_ofNat_of_zero_le h5
  obtain ⟨e, rfl⟩ := Int.eq_ofNat_of_zero_le (show 0 ≤ e by omega)
  exact ⟨loss_ok ⟨d, by omega⟩ ⟨k, by omega⟩ (by show 1 ≤ d; omega), loss_ok2 ⟨n, by omega⟩ ⟨e, by omega⟩ (by show 1 ≤ e; omega)⟩

/-- A drawn loss. -/
def DLos (P : LosD → Prop) (g L : Nat) (w : World) (e : Ending) (w' : World) : Prop := ∃ x : LosD, e = .returned (.agg #[.int .i64 x.a, .int .i64 x.b, .int .i64 x.c, .int .i64 x.d]) ∧ P x ∧ Cur w' g L ∧ Chg g (g + 1) w w'

set_option maxRecDepth 100000 in
set_option maxHeartbeats 4000000 in
theorem lossD_any (g L : Nat) (w : World) (h : Cur w g L) (hL : L ≤ 700000) :
    Calls Tryz.prog 187 #[.pointer (some ⟨g, 0, none⟩)] w (DLos LosOk g (L + 8) w) := by
  have hlt := h.lt
  have b0 := below_new w (.cells #[.int .i64 0, .int .i64 0, .int .i64 0, .int .i64 0] 42)
  have xr := box_new w #[.int .i64 0, .int .i64 0, .int .i64 0, .int .i64 0] 42
  have hc0 := h.below b0
  have hG0 : Chg g (g + 1) w (w.alloc (.cells #[.int .i64 0, .int .i64 0, .int .i64 0, .int .i64 0] 42)) := Chg.of_below b0
  have z0 := b0.size
  clear h b0
  go_enter Tryz.func187, Tryz.ntmps187
  go_wp2_with fail
  generalize w.alloc (.cells #[.int .i64 0, .int .i64 0, .int .i64 0, .int .i64 0] 42) = w1 at *
  refine (pick_any g _ _ _ hc0 (by omega) (by omega)).mono ?_
  rintro e w2 ⟨d, rfl, d0, d1, hc2, hg2⟩
  replace d1 : d ≤ 5 := by simpa using d1
  have hG2 := hG0.trans hg2
  replace xr := box_chg xr hg2 (by omega)
  have z2 := hg2.size
  clear hc0 hG0 hg2
  have hw1 : IntKind.i64.wrap (1 + d) = 1 + d := IntWalk.i64_in _ (by omega)
  go_wp2_with fail
  refine (pick_any g _ _ _ hc2 (by omega) (by omega)).mono ?_
  rintro e w3 ⟨k, rfl, k0, k1, hc3, hg3⟩
  replace k1 : k ≤ 3 := by simpa using k1
  have hG3 := hG2.trans hg3
  replace xr := box_chg xr hg3 (by omega)
  have z3 := hg3.size
  clear hc2 hG2 hg3
  have hw2 : IntKind.i64.wrap (1 + d + k) = 1 + d + k := IntWalk.i64_in _ (by omega)
  go_wp2_with fail
  refine (fMake_any _ _ _ (by omega) (by omega) (by omega) (by omega)).mono ?_
  rintro e w4 ⟨he, b4⟩
  obtain ⟨a, ha⟩ : ∃ a, Hid (fN (redO (1 + d + k) (1 + d)) = a) := ⟨_, Lib.hid rfl⟩
  obtain ⟨b, hb⟩ : ∃ b, Hid (fD (redO (1 + d + k) (1 + d)) = b) := ⟨_, Lib.hid rfl⟩
  rw [ha.out, hb.out] at he
  subst he
  have hc4 := (hc3.below b4).below (below_new w4 (.cells #[.int .i64 a, .int .i64 b] 40))
  have hG4 := (hG3.then_ b4).then_ (below_new w4 (.cells #[.int .i64 a, .int .i64 b] 40))
  replace xr := bxb (bxb xr b4) (below_new w4 (.cells #[.int .i64 a, .int .i64 b] 40))
  have x4 := box_new w4 #[.int .i64 a, .int .i64 b] 40
  have z4 := b4.size
  have y4 := (below_new w4 (.cells #[.int .i64 a, .int .i64 b] 40)).size
  have lz4 : w4.heap.size < (w4.alloc (.cells #[.int .i64 a, .int .i64 b] 40)).heap.size := by simp
  clear hc3 hG3 b4
  go_wp2_with fail
  generalize w4.alloc (.cells #[.int .i64 a, .int .i64 b] 40) = w5 at *
  refine (pick_any g _ _ _ hc4 (by omega) (by omega)).mono ?_
  rintro e w6 ⟨n, rfl, n0, n1, hc6, hg6⟩
  replace n1 : n ≤ 4 := by simpa using n1
  have hG6 := hG4.trans hg6
  replace xr := box_chg xr hg6 (by omega)
  replace x4 := box_chg x4 hg6 (by omega)
  have z6 := hg6.size
  clear hc4 hG4 hg6
  go_wp2_with fail
  refine (pick_any g _ _ _ hc6 (by omega) (by omega)).mono ?_
  rintro e w7 ⟨m, rfl, m0, m1, hc7, hg7⟩
  replace m1 : m ≤ 7 := by simpa using m1
  have hG7 := hG6.trans hg7
  replace xr := box_chg xr hg7 (by omega)
  replace x4 := box_chg x4 hg7 (by omega)
  have z7 := hg7.size
  clear hc6 hG6 hg7
  have hw3 : IntKind.i64.wrap (1 + m) = 1 + m := IntWalk.i64_in _ (by omega)
  go_wp2_with fail
  refine (fMake_any _ _ _ (by omega) (by omega) (by omega) (by omega)).mono ?_
  rintro e w8 ⟨he, b8⟩
  have HL := loss_okL (d := 1 + d) (k := k) (n := n) (e := 1 + m) (by omega) (by omega) k0 k1 n0 n1 (by omega) (by omega)
  obtain ⟨p, hp⟩ : ∃ p, Hid (fN (redO n (1 + m)) = p) := ⟨_, Lib.hid rfl⟩
  obtain ⟨q, hq⟩ : ∃ q, Hid (fD (redO n (1 + m)) = q) := ⟨_, Lib.hid rfl⟩
  rw [hp.out, hq.out] at he HL
  rw [ha.out, hb.out] at HL
  replace HL := Lib.hid HL
  subst he
  have hc8 := (hc7.below b8).below (below_new w8 (.cells #[.int .i64 p, .int .i64 q] 40))
  have hG8 := (hG7.then_ b8).then_ (below_new w8 (.cells #[.int .i64 p, .int .i64 q] 40))
  replace xr := bxb (bxb xr b8) (below_new w8 (.cells #[.int .i64 p, .int .i64 q] 40))
  replace x4 := bxb (bxb x4 b8) (below_new w8 (.cells #[.int .i64 p, .int .i64 q] 40))
  have x8 := box_new w8 #[.int .i64 p, .int .i64 q] 40
  have z8 := b8.size
  have y8 := (below_new w8 (.cells #[.int .i64 p, .int .i64 q] 40)).size
  clear hc7 hG7 b8 ha hb hp hq
  have r1 := box_set (box_set (box_set (box_set xr 0 (.int .i64 a)) 1 (.int .i64 b)) 2 (.int .i64 p)) 3 (.int .i64 q)
  have p0 := bxc xr 0 _ rfl
  have p1 := bxc xr 1 _ rfl
  have p2 := bxc xr 2 _ rfl
  have p3 := bxc xr 3 _ rfl
  have f0 := bxf xr 0
  have f1 := bxf xr 1
  have f2 := bxf xr 2
  have f3 := bxf xr 3
  have i0 := bxc x4 0 _ rfl
  have i1 := bxc x4 1 _ rfl
  have j0 := bxc x8 0 _ rfl
  have j1 := bxc x8 1 _ rfl
  have r0 := bxc r1 0 (.int .i64 a) rfl
  have r2 := bxc r1 1 (.int .i64 b) rfl
  have r3 := bxc r1 2 (.int .i64 p) rfl
  have r4 := bxc r1 3 (.int .i64 q) rfl
  have HG := Lib.hid ((((hG8.setNewD (p := ⟨w.heap.size, 0, none⟩) (by simp) (.int .i64 a)).setNewD (p := ⟨w.heap.size, 1, none⟩) (by simp) (.int .i64 b)).setNewD (p := ⟨w.heap.size, 2, none⟩) (by simp) (.int .i64 p)).setNewD (p := ⟨w.heap.size, 3, none⟩) (by simp) (.int .i64 q))
  have HC := Lib.hid ((((hc8.far (p := ⟨w.heap.size, 0, none⟩) hlt (.int .i64 a)).far (p := ⟨w.heap.size, 1, none⟩) hlt (.int .i64 b)).far (p := ⟨w.heap.size, 2, none⟩) hlt (.int .i64 p)).far (p := ⟨w.heap.size, 3, none⟩) hlt (.int .i64 q))
  clear xr x4 x8 r1 hc8 hG8
  go_wp2
  exact bodyPost_ret (v := .agg #[.int .i64 a, .int .i64 b, .int .i64 p, .int .i64 q]) (by simp [results, Tryz.results187, go_sem, r0, r2, r3, r4]) rfl ⟨⟨a, b, p, q⟩, rfl, HL.out, HC.out.mono (by omega), HG.out⟩
end

section
open Go.RowKit

theorem lvs_one {ps : List Int} (h : geoB ps = true) : 1 ≤ (lvsL ps ps.length).length := by
  have hg := geoB_of h
  have hp : 1 ≤ ps.length := hg.pos
  have hmem : ((ps.length - 1 : Nat) : Int) ∈ lvsL ps ps.length := by
    refine lvsL_mem.2 ⟨ps.length - 1, by omega, rfl, ?_⟩
    unfold leafB
    rw [Bool.not_eq_true']
    refine Bool.eq_false_iff.2 fun hc => ?_
    obtain ⟨i, hi, he⟩ := List.mem_iff_getElem.1 (hasB_memG.1 hc)
    have hgi : gP ps i = ps[i] := by unfold gP; rw [List.getElem?_eq_getElem hi]; rfl
    rcases Nat.eq_zero_or_pos i with rfl | h0
    · have := hg.root; omega
    · have := hg.up i h0 hi
      omega
  rcases hx : lvsL ps ps.length with _ | ⟨a, l⟩
  · rw [hx] at hmem; cases hmem
  · simp
theorem rec_sur {ps : List Int} {vs : List (ByteArray × Int)} {rs : List RecD} {m : Nat} (hg : geoB ps = true) (hl : rs.length = m) (hm : m ≤ 40) (h : ∀ j, j < m → RecG vs (lvsL ps ps.length) (rX rs j)) : surB ps vs rs = true := by
  have hlf : ∀ j, j < m → atLeaf ps (rA rs j) = true := fun j hj => by
    rw [← lvsL_has]
    exact hasB_memG.2 (h j hj).1
  have h30 := (geoB_of hg).most
  unfold surB
  rw [show dataB vs rs = true by
    rw [dataB_eq hl fun i hi => ?_, decide_eq_true hm]
    have h1 := h i hi
    have h2 := hlf i hi
    unfold atLeaf at h2
    simp only [Bool.and_eq_true] at h2
    have h3 := inR_of h2.1
    unfold recOk recB
    rw [inR_yes h3.1 (by omega), inR_yes (show 0 ≤ rH rs i from h1.2.1.1) (show rH rs i ≤ 999 from by have := h1.2.1.2; exact Int.le_trans this (by decide)), show valsB vs (rV rs i) = true from h1.2.2]; rfl, allTo_yes fun i hi => hlf i (by omega)]
  rfl

/-- A drawn survey. -/
structure SurV (w : World) (lo : Nat) (P A Z : Option Addr) (pn pc n c m cz : Nat) (ps : List Int) (vs : List (ByteArray × Int)) : Prop where
  g : geoB ps = true
  p : OwnI w lo w.heap.size P pn pc ps
  v : DVr w lo A n c vs
  s : SchV vs
  d : DRq (RecG vs (lvsL ps ps.length)) w lo Z m cz
  hp : pn ≤ 11
  hn : 1 ≤ n ∧ n ≤ 3
  hm : m ≤ 22
theorem SurV.chg {w w' : World} {lo g : Nat} {P A Z : Option Addr} {pn pc n c m cz : Nat} {ps : List Int} {vs : List (ByteArray × Int)} (h : SurV w lo P A Z pn pc n c m cz ps vs) (hc : Chg g (g + 1) w w') (hg : g < lo) : SurV w' lo P A Z pn pc n c m cz ps vs :=
  ⟨h.g, h.p.chgT hc hg, h.v.chg hc hg, h.s, h.d.chg hc hg, h.hp, h.hn, h.hm⟩
theorem SurV.below {w w' : World} {lo : Nat} {P A Z : Option Addr} {pn pc n c m cz : Nat} {ps : List Int} {vs : List (ByteArray × Int)} (h : SurV w lo P A Z pn pc n c m cz ps vs) (hb : Below w.heap.size w w') : SurV w' lo P A Z pn pc n c m cz ps vs :=
  ⟨h.g, OwnI.of_own (h.p.own.below hb) h.p.small, h.v.below hb, h.s, h.d.below hb, h.hp, h.hn, h.hm⟩
/-- A drawn survey as a result. -/
def DSur (g L : Nat) (w : World) (e : Ending) (w' : World) : Prop := ∃ (P A Z : Option Addr) (pn pc n c m cz : Nat) (ps : List Int) (vs : List (ByteArray × Int)), e = .returned (.tuple #[.agg #[.slice P pn pc], .slice A n c, .slice Z m cz]) ∧ SurV w' w.heap.size P A Z pn pc n c m cz ps vs ∧ Cur w' g L ∧ Chg g (g + 1) w w'

set_option maxRecDepth 100000 in
set_option maxHeartbeats 4000000 in
theorem survey_any (g L : Nat) (w : World) (h : Cur w g L) (hL : L ≤ 500000) :
    Calls Tryz.prog 186 #[.pointer (some ⟨g, 0, none⟩)] w (DSur g (L + 400) w) := by
  have hlt := h.lt
  have b0 := below_new w (.cells #[.slice none 0 0] 36)
  have xr := box_new w #[.slice none 0 0] 36
  have hc0 := h.below b0
  have hG0 : Chg g (g + 1) w (w.alloc (.cells #[.slice none 0 0] 36)) := Chg.of_below b0
  have hs0 := Lib.hid (show (w.alloc (.cells #[.slice none 0 0] 36)).heap.size = w.heap.size + 1 by simp)
  have z0 := b0.size
  clear h b0
  go_enter Tryz.func186, Tryz.ntmps186
  go_wp2_with fail
  generalize w.alloc (.cells #[.slice none 0 0] 36) = w1 at *
  refine (geoD_any g _ _ hc0 (by omega)).mono ?_
  rintro e w2 ⟨P, pn, pc, ps, rfl, hpn, hgeo, oP, hc2, hg2⟩
  have hG2 := hG0.trans hg2
  replace xr := box_chg xr hg2 (by omega)
  have z2 := hg2.size
  have b3 := below_new w2 (.cells #[.slice P pn pc] 36)
  have x3 := box_new w2 #[.slice P pn pc] 36
  replace xr := bxb xr b3
  have hc3 := hc2.below b3
  have hG3 := hG2.then_ b3
  have oP3 := (oP.below b3).fit (show w1.heap.size ≤ w1.heap.size from Nat.le_refl _)
  have lz3 : w2.heap.size < (w2.alloc (.cells #[.slice P pn pc] 36)).heap.size := by simp
  have z3 := b3.size
  clear hc0 hG0 hg2 oP hc2 hG2 b3
  go_wp2_with fail
  generalize w2.alloc (.cells #[.slice P pn pc] 36) = w3 at *
  refine (schemaV_any g _ _ hc3 (by omega)).mono ?_
  rintro e w4 ⟨A, n, c, vs, rfl, hn1, hn3, hD, hsv, hc4, hg4⟩
  have hG4 := hG3.trans hg4
  replace xr := box_chg xr hg4 (by omega)
  replace x3 := box_chg x3 hg4 (by omega)
  have oP4 := oP3.chg hg4 (.inr (by omega))
  have z4 := hg4.size
  clear hc3 hG3 oP3 hg4
  have i0 : w4.cell? ⟨w2.heap.size, 0, none⟩ = some (.slice P pn pc) := bxc x3 0 _ rfl
  have hpl := oP4.own.len
  have hIR : Hid (IntR w4 P pn ps) := Lib.hid (by exact ⟨oP4.ints, by omega⟩)
  have HD := Lib.hid hD
  have HX := Lib.hid xr
  have HP := Lib.hid oP4
  have hlv := lvsL_len (ps := ps) pn
  have hlo := lvs_one hgeo.out
  rw [hpl] at hlo
  clear hD xr oP4
  have hw2 : w.heap.size < w2.heap.size := by have := hs0.out; omega
  have hw1 : w.heap.size < w1.heap.size := by have := hs0.out; omega
  have hc4' : Cur w4.drew g (L + 12 + 16) := hc4
  go_wp2_with fail
  go_region_held3 (fun w' => w'.cell? ⟨w2.heap.size, 0, none⟩ = some (.slice P pn pc)) (first | exact i0 | exact q1 | exact q2 | exact q3 | go_keep) ((first | (go_at_call 161; refine (gLeaves_any P pn pc ps _ (by first | exact hIR.out.below ((Below.refl _ _).drew) | exact hIR.out) (by omega)).mono ?_; rintro e w5 ⟨B, cb, rfl, oB, b5⟩; have b5' : Below w4.heap.size w4 w5 := (by first | exact b5 | exact (Below.refl _ _).drew.trans b5); have q1 := (b5'.cell (block_lt_of_cell i0)).trans i0; have c5 := hc4.below b5'; have G5 := hG4.then_ b5'; have z5 := b5'.size; have D5 := HD.out.below b5'; have X5 := Lib.hid (bxb HX.out b5'); have P5 := Lib.hid (HP.out.below b5'); have oB5 : OwnI w5 w4.heap.size w5.heap.size B (lvsL ps pn).length cb (lvsL ps pn) := OwnI.of_own (by exact oB) (by omega)) | (go_at_call 209; refine (dataV_any g _ w3.heap.size n c w4.heap.size w5.heap.size (lvsL ps pn).length cb A B vs (lvsL ps pn) _ (by exact c5) (by omega) (by exact D5) (by omega) (by omega) (by exact oB5) (by omega) (by omega) (by omega) hsv.out).mono ?_; rintro e w6 ⟨Z, m, cz, rfl, hm, hq, c6, g6⟩; have q2 := ((World.cell?_of_block (g6.block w2.heap.size (by omega) (.inr (by omega)))).trans q1); have q3 : (w6.setCell ⟨w.heap.size, 0, none⟩ (.slice P pn pc)).cell? ⟨w2.heap.size, 0, none⟩ = some (.slice P pn pc) := (World.cell?_setCell_far _ _ _ _ (by show w.heap.size ≠ w2.heap.size; omega)).trans q2; have G6 := G5.trans g6; have z6 := g6.size; have X6 := box_chg X5.out g6 (by omega); have p6 := bxc X6 0 _ rfl; have f6 := bxf X6 0; have P6 := Lib.hid (P5.out.chg g6 (.inr (by omega))); have D6 := Lib.hid (D5.chg g6 (by omega))) | fail))
  have l6 := lt_of_block X6
  have hk := (Chg.refl w.heap.size (w.heap.size + 1) w6).set (g := w.heap.size) (i := 0) (v := .slice P pn pc) (by omega) (by omega)
  have r0 : (w6.setCell ⟨w.heap.size, 0, none⟩ (.slice P pn pc)).cell? ⟨w.heap.size, 0, none⟩ = some (.slice P pn pc) := bxc (box_set X6 0 (.slice P pn pc)) 0 _ rfl
  have hSV : SurV (w6.setCell ⟨w.heap.size, 0, none⟩ (.slice P pn pc)) w.heap.size P A Z pn pc n c m cz ps vs :=
    ⟨hgeo.out, OwnI.of_own ((P6.out.chg hk (.inr (by omega))).own.mono (by omega)) P6.out.small, (D6.out.chg hk (by omega)).mono (by omega), hsv.out, by rw [hpl]; exact (hq.chg hk (by omega)).mono (by omega), hpn, ⟨hn1, hn3⟩, hm⟩
  have HC := Lib.hid (c6.far (p := ⟨w.heap.size, 0, none⟩) hlt (.slice P pn pc))
  have HG := Lib.hid (G6.setNewD (p := ⟨w.heap.size, 0, none⟩) (by simp) (.slice P pn pc))
  have HV := Lib.hid hSV
  clear hSV hk q1 q2 q3 c5 G5 D5 oB5 hq c6 g6 G6 X6 p6 f6 i0 x3 hc4 hc4' hG4
  go_wp2
  exact bodyPost_ret (v := .tuple #[.agg #[.slice P pn pc], .slice A n c, .slice Z m cz]) (by simp [results, Tryz.results186, go_sem, r0]) rfl ⟨P, A, Z, pn, pc, n, c, m, cz, ps, vs, rfl, HV.out, HC.out.mono (by omega), HG.out⟩
end

section
open Go.RowKit

/-- A drawn table while it is made: the box at b, the result's box at a, the geography's box at d. -/
structure TbS (w0 w : World) (g L a b d : Nat) (P : Option Addr) (pn pc : Nat) (lv : Int) (V : Option Addr) (m cv : Nat) (xs : List Int) (U : Option Addr) (k cu : Nat) (us : List Int) (sm : Int) : Prop where
  c : Cur w g L
  ch : Chg g (g + 1) w0 w
  v : Own w w0.heap.size V m cv xs
  u : Own w w0.heap.size U k cu us
  ap : ∀ r, rowOf U = some r → rowOf V ≠ some r
  bx : w.heap[b]? = some (.cells #[.int .i64 lv, .slice V m cv, .slice U k cu, .int .i64 sm] 56 (0, 0))
  rx : w.heap[a]? = some (.cells #[.int .i64 0, .slice none 0 0, .slice none 0 0, .int .i64 0] 56 (0, 0))
  dx : w.heap[d]? = some (.cells #[.slice P pn pc] 36 (0, 0))
  ab : w0.heap.size ≤ d ∧ w0.heap.size ≤ a ∧ a ≠ b ∧ d ≠ b ∧ w0.heap.size ≤ b
section
variable {w0 w w' : World} {g L L' a b d : Nat} {P : Option Addr} {pn pc : Nat} {lv : Int} {V : Option Addr} {m cv : Nat} {xs : List Int} {U : Option Addr} {k cu : Nat} {us : List Int} {sm : Int}
theorem TbS.chg (h : TbS w0 w g L a b d P pn pc lv V m cv xs U k cu us sm) (hg : g < w0.heap.size) (hc : Cur w' g L') (hx : Chg g (g + 1) w w') : TbS w0 w' g L' a b d P pn pc lv V m cv xs U k cu us sm :=
  ⟨hc, h.ch.trans hx, h.v.keep fun j hk hl => hx.block j hl (.inr (by have := (h.v.row_ge j (by rw [hk]; rfl)).1; omega)), h.u.keep fun j hk hl => hx.block j hl (.inr (by have := (h.u.row_ge j (by rw [hk]; rfl)).1; omega)), h.ap,
   box_chg h.bx hx (by have := h.ab; omega), box_chg h.rx hx (by have := h.ab; omega), box_chg h.dx hx (by have := h.ab; omega), h.ab⟩
theorem TbS.below (h : TbS w0 w g L a b d P pn pc lv V m cv xs U k cu us sm) (hb : Below w.heap.size w w') : TbS w0 w' g L a b d P pn pc lv V m cv xs U k cu us sm :=
  ⟨h.c.below hb, h.ch.then_ hb, h.v.below hb, h.u.below hb, h.ap, bxb h.bx hb, bxb h.rx hb, bxb h.dx hb, h.ab⟩
theorem TbS.mono (h : TbS w0 w g L a b d P pn pc lv V m cv xs U k cu us sm) (hl : L ≤ L') : TbS w0 w g L' a b d P pn pc lv V m cv xs U k cu us sm := ⟨h.c.mono hl, h.ch, h.v, h.u, h.ap, h.bx, h.rx, h.dx, h.ab⟩
/-- A store into the table's own box. -/
theorem TbS.put {i : Nat} {x : Value} {lv2 sm2 : Int} (h : TbS w0 w g L a b d P pn pc lv V m cv xs U k cu us sm) (hg : g < w0.heap.size) (he : #[.int .i64 lv, .slice V m cv, .slice U k cu, .int .i64 sm].setIfInBounds i x = #[.int .i64 lv2, .slice V m cv, .slice U k cu, .int .i64 sm2]) :
    TbS w0 (w.setCell ⟨b, i, none⟩ x) g L a b d P pn pc lv2 V m cv xs U k cu us sm2 := by
  have hb := h.ab
  refine ⟨h.c.far (by show g < b; omega) _, h.ch.setNewD (by show w0.heap.size ≤ b; omega) _, h.v.keep fun j hk _ => Below.heap_setCell w ⟨b, i, none⟩ _ j ?_, h.u.keep fun j hk _ => Below.heap_setCell w ⟨b, i, none⟩ _ j ?_, h.ap, ?_, box_off h.rx (by show a ≠ b; omega) _, box_off h.dx (by show d ≠ b; omega) _, hb⟩
  · rintro rfl; exact own_ne h.v h.bx (by decide) (by rw [hk]; rfl)
  · rintro rfl; exact own_ne h.u h.bx (by decide) (by rw [hk]; rfl)
  · rw [← he]; exact box_set h.bx i x
/-- One variable more. -/
theorem TbS.grow {A2 : Option Addr} {c2 : Nat} {x : Int} (h : TbS w0 w g L a b d P pn pc lv V m cv xs U k cu us sm) (hg : g < w0.heap.size) (hw : w.grownBy w' (rowOf V)) (ho : Own w' w0.heap.size A2 (m + 1) c2 (xs ++ [x])) (hr : rowOf A2 = rowOf V ∨ ∃ q, rowOf A2 = some q ∧ w.heap.size ≤ q) :
    TbS w0 (w'.setCell ⟨b, 1, none⟩ (.slice A2 (m + 1) c2)) g L a b d P pn pc lv A2 (m + 1) c2 (xs ++ [x]) U k cu us sm := by
  have hrow : ∀ j, rowOf V = some j → w0.heap.size ≤ j := fun j hj => (h.v.row_ge j hj).1
  have hb := h.ab
  have x1 := box_app2 h.bx hw (own_ne h.v h.bx (by decide))
  have x2 := box_app2 h.rx hw (own_ne h.v h.rx (by decide))
  have x3 := box_app2 h.dx hw (own_ne h.v h.dx (by decide))
  have u1 : Own w' w0.heap.size U k cu us := h.u.far hw fun q hq => fun e => h.ap q (by rw [hq]; rfl) e
  refine ⟨(cur_app h.c hw (fun j hj => by have := hrow j hj; omega)).far (by show g < b; omega) _, (chg_app h.ch hw hrow).setNewD (by show w0.heap.size ≤ b; omega) _, ho.keep fun j hk _ => Below.heap_setCell w' ⟨b, 1, none⟩ _ j ?_, u1.keep fun j hk _ => Below.heap_setCell w' ⟨b, 1, none⟩ _ j ?_, fun r hu hv => ?_, box_set x1 1 _, box_off x2 (by show a ≠ b; omega) _, box_off x3 (by show d ≠ b; omega) _, hb⟩
  · rintro rfl; exact own_ne ho x1 (by decide) (by rw [hk]; rfl)
  · rintro rfl; exact own_ne u1 x1 (by decide) (by rw [hk]; rfl)
  · rcases hr with e | ⟨q, e, hq⟩
    · rw [e] at hv; exact h.ap r hu hv
    · rw [e] at hv
      injection hv with hv
      have := (h.u.row_ge r hu).2
      omega
/-- The end. -/
theorem TbS.quit (h : TbS w0 w g L a b d P pn pc lv V m cv xs U k cu us sm) (hg : g < w0.heap.size) {x0 x1 x2 x3 : Value} :
    let W := (((w.setCell ⟨a, 0, none⟩ x0).setCell ⟨a, 1, none⟩ x1).setCell ⟨a, 2, none⟩ x2).setCell ⟨a, 3, none⟩ x3
    Own W w0.heap.size V m cv xs ∧ Own W w0.heap.size U k cu us ∧ Cur W g L ∧ Chg g (g + 1) w0 W := by
  have hb := h.ab
  have off : ∀ {B : Option Addr} {n c : Nat} {ys : List Int}, Own w w0.heap.size B n c ys → Own ((((w.setCell ⟨a, 0, none⟩ x0).setCell ⟨a, 1, none⟩ x1).setCell ⟨a, 2, none⟩ x2).setCell ⟨a, 3, none⟩ x3) w0.heap.size B n c ys := fun {B n c ys} ho => by
    refine ho.keep fun j hk _ => ?_
    have hj : j ≠ a := by rintro rfl; exact own_ne ho h.rx (by decide) (by rw [hk]; rfl)
    rw [Below.heap_setCell _ ⟨a, 3, none⟩ _ j hj, Below.heap_setCell _ ⟨a, 2, none⟩ _ j hj, Below.heap_setCell _ ⟨a, 1, none⟩ _ j hj, Below.heap_setCell _ ⟨a, 0, none⟩ _ j hj]
  have ga : g < a := by omega
  exact ⟨off h.v, off h.u, (((h.c.far (by exact ga) _).far (by exact ga) _).far (by exact ga) _).far (by exact ga) _, (((h.ch.setNewD (by exact hb.2.1) _).setNewD (by exact hb.2.1) _).setNewD (by exact hb.2.1) _).setNewD (by exact hb.2.1) _⟩
end

/-- A drawn table as a result. -/
def DTab (n g L : Nat) (w : World) (e : Ending) (w' : World) : Prop := ∃ (lv : Int) (V : Option Addr) (m cv : Nat) (xs : List Int) (U : Option Addr) (cu : Nat) (us : List Int) (sm : Int), e = .returned (.agg #[.int .i64 lv, .slice V m cv, .slice U n cu, .int .i64 sm]) ∧ m ≤ n ∧ (∀ r, rowOf U = some r → rowOf V ≠ some r) ∧ OwnI w' w.heap.size w'.heap.size V m cv xs ∧ OwnI w' w.heap.size w'.heap.size U n cu us ∧ Cur w' g L ∧ Chg g (g + 1) w w'

set_option maxRecDepth 100000 in
set_option maxHeartbeats 4000000 in
theorem table_any (g L lo lp hp n c pn pc : Nat) (P A : Option Addr) (ps : List Int) (vs : List (ByteArray × Int)) (w : World) (h : Cur w g L) (hL : L ≤ 400000) (oP : OwnI w lp hp P pn pc ps) (hlp : g < lp) (hs : DVr w lo A n c vs) (hlo : g < lo) (hsv : SchV vs) (hn : n ≤ 8) (hpn : pn ≤ 1000) :
    Calls Tryz.prog 188 #[.pointer (some ⟨g, 0, none⟩), .agg #[.slice P pn pc], .slice A n c] w (DTab n g (L + 80) w) := by
  have hlt := h.lt
  have b0 := below_new w (.cells #[.slice P pn pc] 36)
  have xd := box_new w #[.slice P pn pc] 36
  have s0 := Lib.hid (show (w.alloc (.cells #[.slice P pn pc] 36)).heap.size = w.heap.size + 1 by simp)
  have b1 := b0.trans ((below_new (w.alloc (.cells #[.slice P pn pc] 36)) (.cells #[.int .i64 0, .slice none 0 0, .slice none 0 0, .int .i64 0] 56)).mono b0.size)
  have xr := box_new (w.alloc (.cells #[.slice P pn pc] 36)) #[.int .i64 0, .slice none 0 0, .slice none 0 0, .int .i64 0] 56
  rw [s0.out] at xr
  replace xd := bxb xd (below_new (w.alloc (.cells #[.slice P pn pc] 36)) (.cells #[.int .i64 0, .slice none 0 0, .slice none 0 0, .int .i64 0] 56))
  have s1 := Lib.hid (show ((w.alloc (.cells #[.slice P pn pc] 36)).alloc (.cells #[.int .i64 0, .slice none 0 0, .slice none 0 0, .int .i64 0] 56)).heap.size = w.heap.size + 1 + 1 by simp)
  have hc0 := h.below b1
  have hG0 : Chg g (g + 1) w ((w.alloc (.cells #[.slice P pn pc] 36)).alloc (.cells #[.int .i64 0, .slice none 0 0, .slice none 0 0, .int .i64 0] 56)) := Chg.of_below b1
  have OP := Lib.hid oP
  have hs1 := hs.below b1
  have HV := Lib.hid hsv
  clear h b0 b1 s0 oP hs hsv
  go_enter Tryz.func188, Tryz.ntmps188
  go_wp2_with fail
  generalize (w.alloc (.cells #[.slice P pn pc] 36)).alloc (.cells #[.int .i64 0, .slice none 0 0, .slice none 0 0, .int .i64 0] 56) = w1 at *
  have z1 : w.heap.size + 1 < w1.heap.size := by have := s1.out; omega
  refine (where_any g _ lo n c A vs _ hc0 (by omega) hs1 hlo hn HV.out).mono ?_
  rintro e w2 ⟨U, cu, us, rfl, oU, hc2, hg2⟩
  have z2 := hg2.size
  have b3 := below_new w2 (.cells #[.int .i64 0, .slice none 0 0, .slice U n cu, .int .i64 (-1)] 56)
  have hS3 : TbS w (w2.alloc (.cells #[.int .i64 0, .slice none 0 0, .slice U n cu, .int .i64 (-1)] 56)) g (L + 32) (w.heap.size + 1) w2.heap.size w.heap.size P pn pc 0 none 0 0 [] U n cu us (-1) :=
    ⟨hc2.below b3, (hG0.trans hg2).then_ b3, Own.nil_, (oU.own.mono (by omega)).below b3, fun r _ h0 => (by cases h0), box_new _ _ _, bxb (box_chg xr hg2 (by omega)) b3, bxb (box_chg xd hg2 (by omega)) b3, by omega⟩
  have z3 : w2.heap.size < (w2.alloc (.cells #[.int .i64 0, .slice none 0 0, .slice U n cu, .int .i64 (-1)] 56)).heap.size := by simp
  clear hc0 hG0 xd xr hs1 oU hc2 hg2 b3
  go_wp2_with fail
  generalize w2.alloc (.cells #[.int .i64 0, .slice none 0 0, .slice U n cu, .int .i64 (-1)] 56) = w3 at *
  go_loopw [15] (fun i wr => ∃ (j m : Nat) (V : Option Addr) (cv : Nat) (xs : List Int), i = .int .i64 j ∧ j ≤ n ∧ m ≤ j ∧ TbS w wr g (L + 32 + 2 * j) (w.heap.size + 1) w2.heap.size w.heap.size P pn pc 0 V m cv xs U n cu us (-1)) (fun i _ => n - (intOf i).toNat)
  case atStart => exact ⟨0, 0, none, 0, [], rfl, Nat.zero_le _, Nat.le_refl _, hS3⟩
  case round =>
    clear hS3
    obtain ⟨j, m, V, cv, xs, rfl, hj, hmj, hS⟩ := hrel
    obtain ⟨wo, rfl⟩ : ∃ wo : World, wo = wr := ⟨_, rfl⟩
    by_cases hlt2 : j < n
    · have hc := hS.c
      go_wp2_with fail
      refine (one_any g _ _ _ hc (by omega) (by omega)).mono ?_
      rintro e w5 ⟨b, rfl, hc5, hg5⟩
      have S5 := Lib.hid (hS.chg hlt hc5 hg5)
      clear hS hc hc5 hg5
      cases b
      · go_wp2
        go_roundw
        case rel => exact ⟨j + 1, m, V, cv, xs, by go_num, by omega, by omega, S5.out.mono (by omega)⟩
        case measure => simp [intOf]; omega
      · have e1 : w5.cell? ⟨w2.heap.size, 1, none⟩ = some (.slice V m cv) := bxc S5.out.bx 1 _ rfl
        have o5 := S5.out.v
        have hB5 : w.heap.size ≤ w5.heap.size := S5.out.ch.size
        go_wp2_with (at_builtin; refine wp_app1 rfl _ _ rfl w.heap.size V m cv _ rfl o5 _ rfl rfl (by omega) hB5 ?_; intro A3 c4 w9 hown9 hg9 hr9; have S9 := Lib.hid (S5.out.grow hlt hg9 hown9 (hr9.imp id fun e => ⟨_, e, by omega⟩)); have q9 := box_app2 S5.out.bx hg9 (own_ne S5.out.v S5.out.bx (by decide)); have e9 := bxc q9 1 _ rfl; have f9 := bxf q9 1; clear hown9 hg9 hr9)
        go_roundw
        case rel => exact ⟨j + 1, m + 1, A3, c4, _, by go_num, by omega, by omega, S9.out.mono (by omega)⟩
        case measure => simp [intOf]; omega
    · obtain rfl : n = j := by omega
      have S4 := Lib.hid hS
      have d0 := bxc hS.dx 0 _ rfl
      have hI := OP.out.chg hS.ch (.inr (by omega))
      have hIR : IntR wo P pn ps := ⟨hI.ints, by omega⟩
      clear hS hI
      go_wp2_with fail
      refine (gGood_any P pn pc ps _ hIR).mono ?_
      rintro e w5 ⟨rfl, b5⟩
      have S5 := Lib.hid (S4.out.below b5)
      clear S4 hIR d0 b5
      cases hgb : geoB ps
      · replace hgb := Lib.hid hgb
        have hc := S5.out.c
        go_wp2_with fail
        refine (one_any g _ _ _ hc (by omega) (by omega)).mono ?_
        rintro e wA ⟨b, rfl, hcA, hgA⟩
        have SA := Lib.hid (S5.out.chg hlt hcA hgA)
        clear hc hcA hgA S5
        cases b
        · have R1 := Lib.hid (SA.out.quit hlt (x0 := .int .i64 0) (x1 := .slice V m cv) (x2 := .slice U n cu) (x3 := .int .i64 (-1)))
          have AP1 := Lib.hid SA.out.ap
          have rr := SA.out.rx
          have bb := SA.out.bx
          have p0 := bxc rr 0 _ rfl
          have f0 := bxf rr 0
          have i0 := bxc bb 0 _ rfl
          have p1 := bxc rr 1 _ rfl
          have f1 := bxf rr 1
          have i1 := bxc bb 1 _ rfl
          have p2 := bxc rr 2 _ rfl
          have f2 := bxf rr 2
          have i2 := bxc bb 2 _ rfl
          have p3 := bxc rr 3 _ rfl
          have f3 := bxf rr 3
          have i3 := bxc bb 3 _ rfl
          have tt := box_set (box_set (box_set (box_set rr 0 (.int .i64 0)) 1 (.slice V m cv)) 2 (.slice U n cu)) 3 (.int .i64 (-1))
          have r0 := bxc tt 0 (.int .i64 0) rfl
          have r1 := bxc tt 1 (.slice V m cv) rfl
          have r2 := bxc tt 2 (.slice U n cu) rfl
          have r3 := bxc tt 3 (.int .i64 (-1)) rfl
          clear rr bb tt
          go_wp2
          exact bodyPost_ret (v := .agg #[.int .i64 0, .slice V m cv, .slice U n cu, .int .i64 (-1)]) (by simp [results, Tryz.results188, go_sem, r0, r1, r2, r3]) rfl ⟨0, V, m, cv, xs, U, cu, us, (-1), rfl, by omega, AP1.out, OwnI.of_own R1.out.1 (by omega), OwnI.of_own R1.out.2.1 (by omega), R1.out.2.2.1.mono (by omega), R1.out.2.2.2⟩
        · by_cases hn0 : 0 < n
          · have hd : decide ((0 : Int) < (n : Int)) = true := by simpa using hn0
            have hcA := SA.out.c
            go_wp2_with fail
            refine (pick_any g _ _ _ hcA (by omega) (by omega)).mono ?_
            rintro e wB ⟨v, rfl, hu0, hu1, hcB, hgB⟩
            have SB := Lib.hid (SA.out.chg hlt hcB hgB)
            have SC := Lib.hid (SB.out.put (i := 3) (x := .int .i64 v) hlt rfl)
            have g3 := bxc SB.out.bx 3 _ rfl
            have h3 := bxf SB.out.bx 3
            clear hcA SA hcB hgB hu0 hu1
            have R2 := Lib.hid (SC.out.quit hlt (x0 := .int .i64 0) (x1 := .slice V m cv) (x2 := .slice U n cu) (x3 := .int .i64 v))
            have AP2 := Lib.hid SC.out.ap
            have rr := SC.out.rx
            have bb := SC.out.bx
            have p0 := bxc rr 0 _ rfl
            have f0 := bxf rr 0
            have i0 := bxc bb 0 _ rfl
            have p1 := bxc rr 1 _ rfl
            have f1 := bxf rr 1
            have i1 := bxc bb 1 _ rfl
            have p2 := bxc rr 2 _ rfl
            have f2 := bxf rr 2
            have i2 := bxc bb 2 _ rfl
            have p3 := bxc rr 3 _ rfl
            have f3 := bxf rr 3
            have i3 := bxc bb 3 _ rfl
            have tt := box_set (box_set (box_set (box_set rr 0 (.int .i64 0)) 1 (.slice V m cv)) 2 (.slice U n cu)) 3 (.int .i64 v)
            have r0 := bxc tt 0 (.int .i64 0) rfl
            have r1 := bxc tt 1 (.slice V m cv) rfl
            have r2 := bxc tt 2 (.slice U n cu) rfl
            have r3 := bxc tt 3 (.int .i64 v) rfl
            clear rr bb tt
            go_wp2
            exact bodyPost_ret (v := .agg #[.int .i64 0, .slice V m cv, .slice U n cu, .int .i64 v]) (by simp [results, Tryz.results188, go_sem, r0, r1, r2, r3]) rfl ⟨0, V, m, cv, xs, U, cu, us, v, rfl, by omega, AP2.out, OwnI.of_own R2.out.1 (by omega), OwnI.of_own R2.out.2.1 (by omega), R2.out.2.2.1.mono (by omega), R2.out.2.2.2⟩
          · have hd : decide ((0 : Int) < (n : Int)) = false := by simp; omega
            have R3 := Lib.hid (SA.out.quit hlt (x0 := .int .i64 0) (x1 := .slice V m cv) (x2 := .slice U n cu) (x3 := .int .i64 (-1)))
            have AP3 := Lib.hid SA.out.ap
            have rr := SA.out.rx
            have bb := SA.out.bx
            have p0 := bxc rr 0 _ rfl
            have f0 := bxf rr 0
            have i0 := bxc bb 0 _ rfl
            have p1 := bxc rr 1 _ rfl
            have f1 := bxf rr 1
            have i1 := bxc bb 1 _ rfl
            have p2 := bxc rr 2 _ rfl
            have f2 := bxf rr 2
            have i2 := bxc bb 2 _ rfl
            have p3 := bxc rr 3 _ rfl
            have f3 := bxf rr 3
            have i3 := bxc bb 3 _ rfl
            have tt := box_set (box_set (box_set (box_set rr 0 (.int .i64 0)) 1 (.slice V m cv)) 2 (.slice U n cu)) 3 (.int .i64 (-1))
            have r0 := bxc tt 0 (.int .i64 0) rfl
            have r1 := bxc tt 1 (.slice V m cv) rfl
            have r2 := bxc tt 2 (.slice U n cu) rfl
            have r3 := bxc tt 3 (.int .i64 (-1)) rfl
            clear rr bb tt
            go_wp2
            exact bodyPost_ret (v := .agg #[.int .i64 0, .slice V m cv, .slice U n cu, .int .i64 (-1)]) (by simp [results, Tryz.results188, go_sem, r0, r1, r2, r3]) rfl ⟨0, V, m, cv, xs, U, cu, us, (-1), rfl, by omega, AP3.out, OwnI.of_own R3.out.1 (by omega), OwnI.of_own R3.out.2.1 (by omega), R3.out.2.2.1.mono (by omega), R3.out.2.2.2⟩
      · have hgo := Lib.hid (geoB_of hgb)
        replace hgb := Lib.hid hgb
        have hc := S5.out.c
        go_wp2_with fail
        refine (pick_any g _ _ _ hc (by omega) (by omega)).mono ?_
        rintro e w6 ⟨u, rfl, hu0, hu1, hc6, hg6⟩
        have S6 := Lib.hid (S5.out.chg hlt hc6 hg6)
        have S7 := Lib.hid (S6.out.put (i := 0) (x := .int .i64 u) hlt rfl)
        have g0 := bxc S6.out.bx 0 _ rfl
        have h0 := bxf S6.out.bx 0
        have d0 := bxc S7.out.dx 0 _ rfl
        have k0 := bxc S7.out.bx 0 _ rfl
        have hI := OP.out.chg S7.out.ch (.inr (by omega))
        have hIR : Hid (IntR (w6.setCell ⟨w2.heap.size, 0, none⟩ (.int .i64 u)) P pn ps) := Lib.hid ⟨hI.ints, by omega⟩
        have hpl := hI.own.len
        clear hc hc6 hg6 S5 S6 hu0 hu1 hI
        go_wp2_with fail
        refine (gLevel_any P pn pc ps u _ hIR.out (by have := hgo.out; rw [hpl] at this; exact this)).mono ?_
        rintro e w8 ⟨B, cB, rfl, _, b8⟩
        have S8 := Lib.hid (S7.out.below b8)
        clear S7 hIR d0 k0 g0 h0 b8
        generalize (lvl ps u pn).length = q at *
        by_cases hq0 : q = 0
        · subst hq0
          have g0 := bxc S8.out.bx 0 _ rfl
          have h0 := bxf S8.out.bx 0
          have S9 := Lib.hid (S8.out.put (i := 0) (x := .int .i64 0) hlt rfl)
          clear S8
          have hc := S9.out.c
          go_wp2_with fail
          refine (one_any g _ _ _ hc (by omega) (by omega)).mono ?_
          rintro e wA ⟨b, rfl, hcA, hgA⟩
          have SA := Lib.hid (S9.out.chg hlt hcA hgA)
          clear hc hcA hgA S9
          cases b
          · have R1 := Lib.hid (SA.out.quit hlt (x0 := .int .i64 0) (x1 := .slice V m cv) (x2 := .slice U n cu) (x3 := .int .i64 (-1)))
            have AP1 := Lib.hid SA.out.ap
            have rr := SA.out.rx
            have bb := SA.out.bx
            have p0 := bxc rr 0 _ rfl
            have f0 := bxf rr 0
            have i0 := bxc bb 0 _ rfl
            have p1 := bxc rr 1 _ rfl
            have f1 := bxf rr 1
            have i1 := bxc bb 1 _ rfl
            have p2 := bxc rr 2 _ rfl
            have f2 := bxf rr 2
            have i2 := bxc bb 2 _ rfl
            have p3 := bxc rr 3 _ rfl
            have f3 := bxf rr 3
            have i3 := bxc bb 3 _ rfl
            have tt := box_set (box_set (box_set (box_set rr 0 (.int .i64 0)) 1 (.slice V m cv)) 2 (.slice U n cu)) 3 (.int .i64 (-1))
            have r0 := bxc tt 0 (.int .i64 0) rfl
            have r1 := bxc tt 1 (.slice V m cv) rfl
            have r2 := bxc tt 2 (.slice U n cu) rfl
            have r3 := bxc tt 3 (.int .i64 (-1)) rfl
            clear rr bb tt
            go_wp2
            exact bodyPost_ret (v := .agg #[.int .i64 0, .slice V m cv, .slice U n cu, .int .i64 (-1)]) (by simp [results, Tryz.results188, go_sem, r0, r1, r2, r3]) rfl ⟨0, V, m, cv, xs, U, cu, us, (-1), rfl, by omega, AP1.out, OwnI.of_own R1.out.1 (by omega), OwnI.of_own R1.out.2.1 (by omega), R1.out.2.2.1.mono (by omega), R1.out.2.2.2⟩
          · by_cases hn0 : 0 < n
            · have hd : decide ((0 : Int) < (n : Int)) = true := by simpa using hn0
              have hcA := SA.out.c
              go_wp2_with fail
              refine (pick_any g _ _ _ hcA (by omega) (by omega)).mono ?_
              rintro e wB ⟨v, rfl, hu0, hu1, hcB, hgB⟩
              have SB := Lib.hid (SA.out.chg hlt hcB hgB)
              have SC := Lib.hid (SB.out.put (i := 3) (x := .int .i64 v) hlt rfl)
              have g3 := bxc SB.out.bx 3 _ rfl
              have h3 := bxf SB.out.bx 3
              clear hcA SA hcB hgB hu0 hu1
              have R2 := Lib.hid (SC.out.quit hlt (x0 := .int .i64 0) (x1 := .slice V m cv) (x2 := .slice U n cu) (x3 := .int .i64 v))
              have AP2 := Lib.hid SC.out.ap
              have rr := SC.out.rx
              have bb := SC.out.bx
              have p0 := bxc rr 0 _ rfl
              have f0 := bxf rr 0
              have i0 := bxc bb 0 _ rfl
              have p1 := bxc rr 1 _ rfl
              have f1 := bxf rr 1
              have i1 := bxc bb 1 _ rfl
              have p2 := bxc rr 2 _ rfl
              have f2 := bxf rr 2
              have i2 := bxc bb 2 _ rfl
              have p3 := bxc rr 3 _ rfl
              have f3 := bxf rr 3
              have i3 := bxc bb 3 _ rfl
              have tt := box_set (box_set (box_set (box_set rr 0 (.int .i64 0)) 1 (.slice V m cv)) 2 (.slice U n cu)) 3 (.int .i64 v)
              have r0 := bxc tt 0 (.int .i64 0) rfl
              have r1 := bxc tt 1 (.slice V m cv) rfl
              have r2 := bxc tt 2 (.slice U n cu) rfl
              have r3 := bxc tt 3 (.int .i64 v) rfl
              clear rr bb tt
              go_wp2
              exact bodyPost_ret (v := .agg #[.int .i64 0, .slice V m cv, .slice U n cu, .int .i64 v]) (by simp [results, Tryz.results188, go_sem, r0, r1, r2, r3]) rfl ⟨0, V, m, cv, xs, U, cu, us, v, rfl, by omega, AP2.out, OwnI.of_own R2.out.1 (by omega), OwnI.of_own R2.out.2.1 (by omega), R2.out.2.2.1.mono (by omega), R2.out.2.2.2⟩
            · have hd : decide ((0 : Int) < (n : Int)) = false := by simp; omega
              have R3 := Lib.hid (SA.out.quit hlt (x0 := .int .i64 0) (x1 := .slice V m cv) (x2 := .slice U n cu) (x3 := .int .i64 (-1)))
              have AP3 := Lib.hid SA.out.ap
              have rr := SA.out.rx
              have bb := SA.out.bx
              have p0 := bxc rr 0 _ rfl
              have f0 := bxf rr 0
              have i0 := bxc bb 0 _ rfl
              have p1 := bxc rr 1 _ rfl
              have f1 := bxf rr 1
              have i1 := bxc bb 1 _ rfl
              have p2 := bxc rr 2 _ rfl
              have f2 := bxf rr 2
              have i2 := bxc bb 2 _ rfl
              have p3 := bxc rr 3 _ rfl
              have f3 := bxf rr 3
              have i3 := bxc bb 3 _ rfl
              have tt := box_set (box_set (box_set (box_set rr 0 (.int .i64 0)) 1 (.slice V m cv)) 2 (.slice U n cu)) 3 (.int .i64 (-1))
              have r0 := bxc tt 0 (.int .i64 0) rfl
              have r1 := bxc tt 1 (.slice V m cv) rfl
              have r2 := bxc tt 2 (.slice U n cu) rfl
              have r3 := bxc tt 3 (.int .i64 (-1)) rfl
              clear rr bb tt
              go_wp2
              exact bodyPost_ret (v := .agg #[.int .i64 0, .slice V m cv, .slice U n cu, .int .i64 (-1)]) (by simp [results, Tryz.results188, go_sem, r0, r1, r2, r3]) rfl ⟨0, V, m, cv, xs, U, cu, us, (-1), rfl, by omega, AP3.out, OwnI.of_own R3.out.1 (by omega), OwnI.of_own R3.out.2.1 (by omega), R3.out.2.2.1.mono (by omega), R3.out.2.2.2⟩
        · have hd : ((q : Int) == 0) = false := by rw [beq_eq_false_iff_ne]; omega
          clear hq0
          have hc := S8.out.c
          go_wp2_with fail
          refine (one_any g _ _ _ hc (by omega) (by omega)).mono ?_
          rintro e wA ⟨b, rfl, hcA, hgA⟩
          have SA := Lib.hid (S8.out.chg hlt hcA hgA)
          clear hc hcA hgA S8
          cases b
          · have R1 := Lib.hid (SA.out.quit hlt (x0 := .int .i64 u) (x1 := .slice V m cv) (x2 := .slice U n cu) (x3 := .int .i64 (-1)))
            have AP1 := Lib.hid SA.out.ap
            have rr := SA.out.rx
            have bb := SA.out.bx
            have p0 := bxc rr 0 _ rfl
            have f0 := bxf rr 0
            have i0 := bxc bb 0 _ rfl
            have p1 := bxc rr 1 _ rfl
            have f1 := bxf rr 1
            have i1 := bxc bb 1 _ rfl
            have p2 := bxc rr 2 _ rfl
            have f2 := bxf rr 2
            have i2 := bxc bb 2 _ rfl
            have p3 := bxc rr 3 _ rfl
            have f3 := bxf rr 3
            have i3 := bxc bb 3 _ rfl
            have tt := box_set (box_set (box_set (box_set rr 0 (.int .i64 u)) 1 (.slice V m cv)) 2 (.slice U n cu)) 3 (.int .i64 (-1))
            have r0 := bxc tt 0 (.int .i64 u) rfl
            have r1 := bxc tt 1 (.slice V m cv) rfl
            have r2 := bxc tt 2 (.slice U n cu) rfl
            have r3 := bxc tt 3 (.int .i64 (-1)) rfl
            clear rr bb tt
            go_wp2
            exact bodyPost_ret (v := .agg #[.int .i64 u, .slice V m cv, .slice U n cu, .int .i64 (-1)]) (by simp [results, Tryz.results188, go_sem, r0, r1, r2, r3]) rfl ⟨u, V, m, cv, xs, U, cu, us, (-1), rfl, by omega, AP1.out, OwnI.of_own R1.out.1 (by omega), OwnI.of_own R1.out.2.1 (by omega), R1.out.2.2.1.mono (by omega), R1.out.2.2.2⟩
          · by_cases hn0 : 0 < n
            · have hd : decide ((0 : Int) < (n : Int)) = true := by simpa using hn0
              have hcA := SA.out.c
              go_wp2_with fail
              refine (pick_any g _ _ _ hcA (by omega) (by omega)).mono ?_
              rintro e wB ⟨v, rfl, hu0, hu1, hcB, hgB⟩
              have SB := Lib.hid (SA.out.chg hlt hcB hgB)
              have SC := Lib.hid (SB.out.put (i := 3) (x := .int .i64 v) hlt rfl)
              have g3 := bxc SB.out.bx 3 _ rfl
              have h3 := bxf SB.out.bx 3
              clear hcA SA hcB hgB hu0 hu1
              have R2 := Lib.hid (SC.out.quit hlt (x0 := .int .i64 u) (x1 := .slice V m cv) (x2 := .slice U n cu) (x3 := .int .i64 v))
              have AP2 := Lib.hid SC.out.ap
              have rr := SC.out.rx
              have bb := SC.out.bx
              have p0 := bxc rr 0 _ rfl
              have f0 := bxf rr 0
              have i0 := bxc bb 0 _ rfl
              have p1 := bxc rr 1 _ rfl
              have f1 := bxf rr 1
              have i1 := bxc bb 1 _ rfl
              have p2 := bxc rr 2 _ rfl
              have f2 := bxf rr 2
              have i2 := bxc bb 2 _ rfl
              have p3 := bxc rr 3 _ rfl
              have f3 := bxf rr 3
              have i3 := bxc bb 3 _ rfl
              have tt := box_set (box_set (box_set (box_set rr 0 (.int .i64 u)) 1 (.slice V m cv)) 2 (.slice U n cu)) 3 (.int .i64 v)
              have r0 := bxc tt 0 (.int .i64 u) rfl
              have r1 := bxc tt 1 (.slice V m cv) rfl
              have r2 := bxc tt 2 (.slice U n cu) rfl
              have r3 := bxc tt 3 (.int .i64 v) rfl
              clear rr bb tt
              go_wp2
              exact bodyPost_ret (v := .agg #[.int .i64 u, .slice V m cv, .slice U n cu, .int .i64 v]) (by simp [results, Tryz.results188, go_sem, r0, r1, r2, r3]) rfl ⟨u, V, m, cv, xs, U, cu, us, v, rfl, by omega, AP2.out, OwnI.of_own R2.out.1 (by omega), OwnI.of_own R2.out.2.1 (by omega), R2.out.2.2.1.mono (by omega), R2.out.2.2.2⟩
            · have hd : decide ((0 : Int) < (n : Int)) = false := by simp; omega
              have R3 := Lib.hid (SA.out.quit hlt (x0 := .int .i64 u) (x1 := .slice V m cv) (x2 := .slice U n cu) (x3 := .int .i64 (-1)))
              have AP3 := Lib.hid SA.out.ap
              have rr := SA.out.rx
              have bb := SA.out.bx
              have p0 := bxc rr 0 _ rfl
              have f0 := bxf rr 0
              have i0 := bxc bb 0 _ rfl
              have p1 := bxc rr 1 _ rfl
              have f1 := bxf rr 1
              have i1 := bxc bb 1 _ rfl
              have p2 := bxc rr 2 _ rfl
              have f2 := bxf rr 2
              have i2 := bxc bb 2 _ rfl
              have p3 := bxc rr 3 _ rfl
              have f3 := bxf rr 3
              have i3 := bxc bb 3 _ rfl
              have tt := box_set (box_set (box_set (box_set rr 0 (.int .i64 u)) 1 (.slice V m cv)) 2 (.slice U n cu)) 3 (.int .i64 (-1))
              have r0 := bxc tt 0 (.int .i64 u) rfl
              have r1 := bxc tt 1 (.slice V m cv) rfl
              have r2 := bxc tt 2 (.slice U n cu) rfl
              have r3 := bxc tt 3 (.int .i64 (-1)) rfl
              clear rr bb tt
              go_wp2
              exact bodyPost_ret (v := .agg #[.int .i64 u, .slice V m cv, .slice U n cu, .int .i64 (-1)]) (by simp [results, Tryz.results188, go_sem, r0, r1, r2, r3]) rfl ⟨u, V, m, cv, xs, U, cu, us, (-1), rfl, by omega, AP3.out, OwnI.of_own R3.out.1 (by omega), OwnI.of_own R3.out.2.1 (by omega), R3.out.2.2.1.mono (by omega), R3.out.2.2.2⟩
end
end Go.Proofs.YtfanpbfmnckmnaaGreat
