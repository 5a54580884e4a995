/- The walk of the law FnExactRecordKey. -/
import Derived.Test.YthphjfelpbfdmaaRKeyF
import Derived.Test.YthphjfelpbfdmaaCut
import Derived.Deep.CutRange
import Derived.Deep.DeepCutAuto
import Derived.Deep.RegionHeld3
namespace Go.Proofs.Ythphjfelpbfdmaa
open Go.RowKit

theorem OwnV.sch {w : World} {lo hi : Nat} {A : Option Addr} {n c : Nat} {vs : List (ByteArray × Int)} (h : OwnV w lo hi A n c vs) (hs : ∀ j, j < n → (vN vs j).size ≤ 1099511627776) : SchR w A n c vs := by
  refine ⟨h.vars, hs, h.small, ?_⟩
  rcases h.own.2 with ⟨hv, h0⟩ | ⟨g, cap, cur, hv, _, _, hc, _⟩
  · injection hv with _ _ hc; omega
  · injection hv with _ _ hc'; omega
theorem OwnV.drew {w : World} {lo hi : Nat} {A : Option Addr} {n c : Nat} {vs : List (ByteArray × Int)} (h : OwnV w lo hi A n c vs) : OwnV w.drew lo hi A n c vs := ⟨h.own, h.top, h.small⟩

set_option maxRecDepth 100000 in
set_option maxHeartbeats 4000000 in
theorem walk_FnExactRecordKey (a0 : Int) (A1 : Option Addr) (n1 c1 : Nat) (z1 : List (ByteArray × Int)) (x y : Int) (V : Option Addr) (m d : Nat) (xs : List Int) (w : World) (_w0 : (Lit.int .i64 a0).wf = true) (r1 : VarsR w A1 n1 z1) (m1 : n1 ≤ maxLen) (s1 : ∀ j, j < n1 → (vN z1 j).size ≤ maxLen) (r2 : Ints w V m xs) (m2 : m ≤ maxLen) :
    Calls Try.prog 3 #[.int .i64 a0, .slice A1 n1 c1, .agg #[.int .i64 x, .int .i64 y, .slice V m d]] w fun e w' => e = .returned (.bool true) ∧ Below w.heap.size w w' := by
  unfold maxLen at m1 m2 s1
  have b1 := below_new w (.cells #[.int .i64 x, .int .i64 y, .slice V m d] 25)
  have x1 := box_new w #[.int .i64 x, .int .i64 y, .slice V m d] 25
  have B1 := b1
  replace r1 := r1.below b1
  replace r2 := r2.below b1
  go_enter Try.func3, Try.ntmps3
  go_wp2_with fail
  generalize w.alloc (.cells #[.int .i64 x, .int .i64 y, .slice V m d] 25) = w1 at *
  clear b1
  refine (szVariableS_any _ n1 _ _ z1 _ r1 s1 m1 (by omega) (by omega)).mono ?_
  rintro e w2 ⟨⟨l1, rfl, hl0, hl1, hl2⟩, b2⟩
  have B2 := B1.trans (b2.mono B1.size)
  have x2 := box_below x1 b2
  replace r1 := r1.below b2
  replace r2 := r2.below b2
  clear b2 x1 B1
  by_cases g1 : l1 < 0
  · go_wp2
    go_ret
    exact ⟨rfl, B2⟩
  replace hl2 := hl2 (by omega)
  have HS := Lib.hid hl2.2
  have hn1 := hl2.1
  clear hl2 s1
  have c0 := box_cell x2 0 (.int .i64 x) rfl
  have c1 := box_cell x2 1 (.int .i64 y) rfl
  have c2 := box_cell x2 2 (.slice V m d) rfl
  go_wp2_with fail
  refine (szRecord_any x y _ m _ l1 _ m2 (by omega) (by omega)).mono ?_
  rintro e w3 ⟨rfl, b3⟩
  have B3 := B2.trans (b3.mono B2.size)
  have x3 := box_below x2 b3
  replace r1 := r1.below b3
  replace r2 := r2.below b3
  clear b3 x2 B2 c0 c1 c2
  have F := szi_in m l1 (by omega)
  by_cases g2 : szi m l1 < 0
  · go_wp2
    go_ret
    exact ⟨rfl, B3⟩
  have hm : m ≤ 1048576 := by have := F.2 (by omega); omega
  have hn : n1 ≤ 1048576 := by omega
  have hs : Hid (∀ j, j < n1 → (vN z1 j).size ≤ 1099511627776) := Lib.hid fun j hj => by have := HS.out j hj; omega
  clear F HS m1 m2
  have c0 := box_cell x3 0 (.int .i64 x) rfl
  have c1 := box_cell x3 1 (.int .i64 y) rfl
  have c2 := box_cell x3 2 (.slice V m d) rfl
  have q1 : w.heap.size < w3.heap.size := lt_of_block x3
  go_wp2_with fail
  go_cut [8, 9] (fun u0 u1 wx => u0 = .int .i64 (rkV a0 z1 x y xs) ∧ u1 = .bool (rkB a0 z1 x y xs) ∧ Below w3.heap.size w3 wx)
  case first =>
    have B90 := (Below.refl w3.heap.size w3).drew
    have x90 : w3.drew.heap[w.heap.size]? = _ := x3
    have HV0 : VarsR w3.drew A1 n1 z1 := r1
    have HI0 : Ints w3.drew V m xs := r2
    go_region_held3 (fun w' => w'.cell? ⟨w.heap.size, 0, none⟩ = some (.int .i64 x) ∧ w'.cell? ⟨w.heap.size, 1, none⟩ = some (.int .i64 y) ∧ w'.cell? ⟨w.heap.size, 2, none⟩ = some (.slice V m d)) (first | exact ⟨S0, S1, S2⟩ | exact ⟨F0, F1, F2⟩ | exact ⟨I0, I1, I2⟩ | exact ⟨box_cell x90 0 _ rfl, box_cell x90 1 _ rfl, box_cell x90 2 _ rfl⟩ | go_keep) (first
          | (go_at_call 18; refine (toVariableS_law _ _ _ z1 _ (by first | exact HVF | exact HV0) (by omega)).mono ?_; rintro e wI ⟨AI, cI, rfl, oI, bI⟩; (first | (have BI := keepB BF (Nat.le_refl _) bI; have xI := box_below xF bI; have oF := oF.below bI) | (have BI := keepB B90 (Nat.le_refl _) bI; have xI := box_below x90 bI; have HII := HI0.below bI)); have I0 := box_cell xI 0 (.int .i64 x) rfl; have I1 := box_cell xI 1 (.int .i64 y) rfl; have I2 := box_cell xI 2 (.slice V m d) rfl)
          | (go_at_call 19; refine (toRecord_any x y _ _ _ xs _ (by first | exact HII | exact HI0) (by omega)).mono ?_; rintro e wF ⟨VF, cF, rfl, oF, bF⟩; (first | (have BF := keepB BI (Nat.le_refl _) bF; have xF := box_below xI bF; have oI := oI.below bF) | (have BF := keepB B90 (Nat.le_refl _) bF; have xF := box_below x90 bF; have HVF := HV0.below bF)); have F0 := box_cell xF 0 (.int .i64 x) rfl; have F1 := box_cell xF 1 (.int .i64 y) rfl; have F2 := box_cell xF 2 (.slice V m d) rfl)
          | (go_at_call 17; refine (specRecordKey_law a0 _ _ _ _ _ _ x y z1 xs _ (by exact oI.sch hs.out) (by exact oF.intR)).mono ?_; rintro e wS ⟨rfl, bS⟩; (first | (have BS := keepB BF (Nat.le_refl _) bS; have xS := box_below xF bS) | (have BS := keepB BI (Nat.le_refl _) bS; have xS := box_below xI bS)); have S0 := box_cell xS 0 (.int .i64 x) rfl; have S1 := box_cell xS 1 (.int .i64 y) rfl; have S2 := box_cell xS 2 (.slice V m d) rfl))
    all_goals (go_wp2_with fail; go_meet; exact ⟨rfl, rfl, BS⟩)
  case rest =>
  obtain ⟨rfl, rfl, b4⟩ := hcut
  clear c0 c1 c2
  generalize wc = w4 at *
  have B4 := B3.trans (b4.mono B3.size)
  have x4 := box_below x3 b4
  replace r1 := r1.below b4
  replace r2 := r2.below b4
  clear b4 x3 B3 q1
  have c0 := box_cell x4 0 (.int .i64 x) rfl
  have c1 := box_cell x4 1 (.int .i64 y) rfl
  have c2 := box_cell x4 2 (.slice V m d) rfl
  go_wp2_with fail
  refine (toVariableS_law _ _ _ z1 _ r1 (by omega)).mono ?_
  rintro e w5 ⟨A5, c5, rfl, o5, b5⟩
  have B5 := B4.trans (b5.mono B4.size)
  have x5 := box_below x4 b5
  replace r1 := r1.below b5
  replace r2 := r2.below b5
  clear b5 x4 B4 c0 c1 c2
  have c0 := box_cell x5 0 (.int .i64 x) rfl
  have c1 := box_cell x5 1 (.int .i64 y) rfl
  have c2 := box_cell x5 2 (.slice V m d) rfl
  go_wp2_with fail
  refine (toRecord_any x y _ _ _ xs _ r2 (by omega)).mono ?_
  rintro e w6 ⟨V6, c6, rfl, o6, b6⟩
  have B6 := B5.trans (b6.mono B5.size)
  have x6 := box_below x5 b6
  replace r1 := r1.below b6
  replace r2 := r2.below b6
  replace o5 := o5.below b6
  clear b6 x5 B5 c0 c1 c2
  have b7 := below_new w6 (.cells #[.int .i64 x, .int .i64 y, .slice V6 m c6] 32)
  have y7 := box_new w6 #[.int .i64 x, .int .i64 y, .slice V6 m c6] 32
  have B7 := B6.trans (b7.mono B6.size)
  have x7 := box_below x6 b7
  replace r1 := r1.below b7
  replace r2 := r2.below b7
  replace o5 := o5.below b7
  replace o6 := o6.below b7
  go_wp2_with fail
  generalize w6.alloc (.cells #[.int .i64 x, .int .i64 y, .slice V6 m c6] 32) = w7 at *
  clear b7 x6 B6
  refine (implRecordKey_law a0 _ _ _ _ _ _ x y z1 xs _ (o5.sch hs.out) o6.intR).mono ?_
  rintro e w8 ⟨rfl, b8⟩
  have B8 := B7.trans (b8.mono B7.size)
  have x8 := box_below x7 b8
  have y8 := box_below y7 b8
  replace r1 := r1.below b8
  replace r2 := r2.below b8
  replace o5 := o5.below b8
  replace o6 := o6.below b8
  clear b8 x7 y7 B7
  go_wp2_with fail
  refine (toVariableS_law _ _ _ z1 _ r1 (by omega)).mono ?_
  rintro e w9 ⟨A9, c9, rfl, o9, b9⟩
  have B9 := B8.trans (b9.mono B8.size)
  have x9 := box_below x8 b9
  have y9 := box_below y8 b9
  replace r2 := r2.below b9
  replace o5 := o5.below b9
  replace o6 := o6.below b9
  clear b9 x8 y8 B8 r1
  go_wp2_with fail
  refine (eqVariableS_any _ _ _ _ _ z1 _ o5.vars o9.vars (by omega)).mono ?_
  rintro e w10 ⟨rfl, b10⟩
  have B10 := B9.trans (b10.mono B9.size)
  have x10 := box_below x9 b10
  have y10 := box_below y9 b10
  replace r2 := r2.below b10
  replace o6 := o6.below b10
  clear b10 x9 y9 B9 o5 o9
  have c0 := box_cell x10 0 (.int .i64 x) rfl
  have c1 := box_cell x10 1 (.int .i64 y) rfl
  have c2 := box_cell x10 2 (.slice V m d) rfl
  have d0 := box_cell y10 0 (.int .i64 x) rfl
  have d1 := box_cell y10 1 (.int .i64 y) rfl
  have d2 := box_cell y10 2 (.slice V6 m c6) rfl
  go_wp2_with fail
  go_cut [61] (fun u0 wx => u0 = .bool false ∧ Below w10.heap.size w10 wx)
  case first =>
    have B90 := (Below.refl w10.heap.size w10).drew
    have x90 : w10.drew.heap[w.heap.size]? = _ := x10
    have y90 : w10.drew.heap[w6.heap.size]? = _ := y10
    have HI0 : Ints w10.drew V m xs := r2
    go_region_held3 (fun w' => w'.cell? ⟨w.heap.size, 0, none⟩ = some (.int .i64 x) ∧ w'.cell? ⟨w.heap.size, 1, none⟩ = some (.int .i64 y) ∧ w'.cell? ⟨w.heap.size, 2, none⟩ = some (.slice V m d) ∧ w'.cell? ⟨w6.heap.size, 0, none⟩ = some (.int .i64 x) ∧ w'.cell? ⟨w6.heap.size, 1, none⟩ = some (.int .i64 y) ∧ w'.cell? ⟨w6.heap.size, 2, none⟩ = some (.slice V6 m c6)) (first | exact ⟨S0, S1, S2, S3, S4, S5⟩ | exact ⟨F0, F1, F2, F3, F4, F5⟩ | exact ⟨box_cell x90 0 _ rfl, box_cell x90 1 _ rfl, box_cell x90 2 _ rfl, box_cell y90 0 _ rfl, box_cell y90 1 _ rfl, box_cell y90 2 _ rfl⟩ | go_keep) (first
          | (go_at_call 19; refine (toRecord_any x y _ _ _ xs _ (by exact HI0) (by omega)).mono ?_; rintro e wF ⟨VF, cF, rfl, oF, bF⟩; have BF := keepB B90 (Nat.le_refl _) bF; have xF := box_below x90 bF; have yF := box_below y90 bF; have oX : OwnI wF w5.heap.size w6.heap.size V6 m c6 xs := OwnI.below (w := World.drew w10) o6.drew bF; have F0 := box_cell xF 0 (.int .i64 x) rfl; have F1 := box_cell xF 1 (.int .i64 y) rfl; have F2 := box_cell xF 2 (.slice V m d) rfl; have F3 := box_cell yF 0 (.int .i64 x) rfl; have F4 := box_cell yF 1 (.int .i64 y) rfl; have F5 := box_cell yF 2 (.slice V6 m c6) rfl)
          | (go_at_call 22; refine (eqRecord_any x y _ _ m _ _ xs _ (by exact oX.ints) (by exact oF.ints) (by omega)).mono ?_; rintro e wS ⟨rfl, bS⟩; have BS := keepB BF (Nat.le_refl _) bS; have xS := box_below xF bS; have yS := box_below yF bS; have S0 := box_cell xS 0 (.int .i64 x) rfl; have S1 := box_cell xS 1 (.int .i64 y) rfl; have S2 := box_cell xS 2 (.slice V m d) rfl; have S3 := box_cell yS 0 (.int .i64 x) rfl; have S4 := box_cell yS 1 (.int .i64 y) rfl; have S5 := box_cell yS 2 (.slice V6 m c6) rfl))
    all_goals (go_wp2_with fail; go_meet; exact ⟨rfl, BS⟩)
  case rest =>
  obtain ⟨rfl, b11⟩ := hcut
  have B11 := B10.trans (b11.mono B10.size)
  go_wp2
  go_ret
  exact ⟨rfl, B11⟩
end Go.Proofs.Ythphjfelpbfdmaa
