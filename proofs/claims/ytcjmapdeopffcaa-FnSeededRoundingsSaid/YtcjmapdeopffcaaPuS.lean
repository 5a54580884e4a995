/- The network of a matrix: the program (its beginning). -/
import Derived.Test.YtcjmapdeopffcaaHl
import Derived.Deep.OwnRows
namespace Go.Proofs.Ytcjmapdeopffcaa
open Go.RowKit Flo
set_option linter.unusedVariables false

def netO (zR zC zL : Array Value) : Nat → Obj
  | 0 => .cells zR 3
  | 1 => .cells zC 3
  | 2 => .cells zL 24
  | 3 => .cells zL 24
  | _ => .cells #[.slice none 0 0, .slice none 0 0, .slice none 0 0, .slice none 0 0] 54
/-- What region 4 leaves: the network of nothing, and its box. -/
def NetB0 (w3 : World) (T1 n m : Nat) (v9 : Value) (wx : World) : Prop := ∃ (gx : Nat) (f : Nat → Option Rw) (D C A E : Option Addr), v9 = .pointer (some ⟨gx, 0, none⟩) ∧ T1 ≤ gx ∧ wx.heap[gx]? = some (.cells #[.slice D n n, .slice C m m, .slice A n n, .slice E n n] 54 (0, 0)) ∧ NetW wx T1 f D C A E n m n n 0 (zeroN n m) ∧ Below T1 w3 wx ∧ T1 ≤ wx.heap.size
theorem net_begin {w3 w : World} {T1 n m : Nat} {g : Nat → Nat} {o : Nat → Obj} (hn : n ≤ 1000) (hm : m ≤ 1000) (h : F5 w3 w T1 (fun _ => true) g o) (h0 : o 0 = .cells (madeCells #[Value.int .i64 0] n) 3) (h1 : o 1 = .cells (madeCells #[Value.int .i64 0] m) 3)
    (h2 : o 2 = .cells (madeCells #[Value.slice none 0 0] n) 24) (h3 : o 3 = .cells (madeCells #[Value.slice none 0 0] n) 24) (h4 : o 4 = .cells #[.slice none 0 0, .slice none 0 0, .slice none 0 0, .slice none 0 0] 54) :
    NetB0 w3 T1 n m (.pointer (some ⟨g 4, 0, none⟩)) ((((w.setCell ⟨g 4, 0, none⟩ (.slice (some ⟨g 0, 0, none⟩) n n)).setCell ⟨g 4, 1, none⟩ (.slice (some ⟨g 1, 0, none⟩) m m)).setCell ⟨g 4, 2, none⟩ (.slice (some ⟨g 2, 0, none⟩) n n)).setCell ⟨g 4, 3, none⟩ (.slice (some ⟨g 3, 0, none⟩) n n)) := by
  obtain ⟨a0, b0, _⟩ := h.at_ 0 (by omega) rfl
  obtain ⟨a1, b1, _⟩ := h.at_ 1 (by omega) rfl
  obtain ⟨a2, b2, _⟩ := h.at_ 2 (by omega) rfl
  obtain ⟨a3, b3, _⟩ := h.at_ 3 (by omega) rfl
  obtain ⟨a4, b4, s4⟩ := h.at_ 4 (by omega) rfl
  rw [h0] at a0
  rw [h1] at a1
  rw [h2] at a2
  rw [h3] at a3
  rw [h4] at a4
  have hc := chg4 (w := w) (g := g 4) (a := .slice (some ⟨g 0, 0, none⟩) n n) (b := .slice (some ⟨g 1, 0, none⟩) m m) (c := .slice (some ⟨g 2, 0, none⟩) n n) (d := .slice (some ⟨g 3, 0, none⟩) n n)
  have n04 := h.ne 0 4 (by omega) (by omega) (by omega) rfl rfl
  have n14 := h.ne 1 4 (by omega) (by omega) (by omega) rfl rfl
  have n24 := h.ne 2 4 (by omega) (by omega) (by omega) rfl rfl
  have n34 := h.ne 3 4 (by omega) (by omega) (by omega) rfl rfl
  obtain ⟨f, hN⟩ := NetW.start (B := T1) hn hm (box_chg a0 hc (by omega)) (box_chg a1 hc (by omega)) (box_chg a2 hc (by omega)) (box_chg a3 hc (by omega)) b0 b1 b2 b3 (h.ne 0 1 (by omega) (by omega) (by omega) rfl rfl) (h.ne 2 3 (by omega) (by omega) (by omega) rfl rfl)
  exact ⟨g 4, f, _, _, _, _, rfl, b4, box4 a4, hN, hc.below h.below (by omega) (by have := h.sz; omega), Nat.le_trans h.sz hc.size⟩

theorem NetW.rows2 {w W : World} {B cD cC cA cE k gA gE p q : Nat} {D C : Option Addr} {A E : Option Addr} {t : Net}
    (back : ∀ (p q : Nat) (w' : World), p ≠ q → w.heap.size ≤ p → w.heap.size ≤ q → w.heap.size ≤ w'.heap.size → w'.heap[p]? = some (.cells (madeCells #[Value.int .i64 0] t.m) 3 (0, 0)) → w'.heap[q]? = some (.cells (madeCells #[Value.int .i64 0] t.m) 3 (0, 0)) →
      w'.heap[gA]? = (w.setCell ⟨gA, k, none⟩ (.slice (some ⟨p, 0, none⟩) t.m t.m)).heap[gA]? → w'.heap[gE]? = (w.setCell ⟨gE, k, none⟩ (.slice (some ⟨q, 0, none⟩) t.m t.m)).heap[gE]? → (∀ z, z < w.heap.size → z ≠ gA → z ≠ gE → w'.heap[z]? = w.heap[z]?) →
      ∃ f', NetW w' B f' D C A E cD cC cA cE (k + 1) t)
    {zC : Array Value} (hZ : zC = madeCells #[Value.int .i64 0] t.m) (h : TwoRows w W (.cells zC 3) gA gE k p q (.slice (some ⟨p, 0, none⟩) t.m t.m) (.slice (some ⟨q, 0, none⟩) t.m t.m)) : ∃ f', NetW W B f' D C A E cD cC cA cE (k + 1) t := by
  subst hZ
  exact back p q W h.1 h.2.1 h.2.2.1 h.2.2.2.1 h.2.2.2.2.1 h.2.2.2.2.2.1 h.2.2.2.2.2.2.1 h.2.2.2.2.2.2.2.1 h.2.2.2.2.2.2.2.2
theorem vec_kept {w W : World} {lo hi n c : Nat} {A : Option Addr} {xs : List Int} (h : OwnI w lo hi A n c xs) (hk : ∀ z, lo ≤ z → z < w.heap.size → W.heap[z]? = w.heap[z]?) : Ints W A n xs := (h.own.keep fun g e hg => hk g ((h.row g (by rw [e]; rfl)).1) hg).ints
theorem OwnI.mono_lo {w : World} {lo lo' hi n c : Nat} {A : Option Addr} {xs : List Int} (h : OwnI w lo hi A n c xs) (hl : lo' ≤ lo) : OwnI w lo' hi A n c xs := ⟨h.own.mono hl, h.top, h.small⟩
set_option maxRecDepth 100000 in
set_option maxHeartbeats 8000000 in
theorem implNetwork_any (n m : Nat) (b : Int) (A : Option Addr) (ca : Nat) (x : Nat → Nat → Int) (w : World) (hx : MatR w A n m x) (hM : MxB n m b x) :
    Calls Try.prog 39 #[.slice A n ca, .int .i64 b] w fun e w' => ∃ (R C L H : Option Addr) (rc cc lc hc B : Nat) (f : Nat → Option Rw), e = .returned (.agg #[.slice R (n + 1) rc, .slice C (m + 1) cc, .slice L (n + 1) lc, .slice H (n + 1) hc]) ∧ w.heap.size ≤ B ∧ NetW w' B f R C L H rc cc lc hc (n + 1) (netOf n m b x) ∧ Below w.heap.size w w' := by
  have HM := Lib.hid hM
  have hb2 := hM.b2
  have hb100 := hM.b100
  have hmf : ∀ (fn : Fn) (first cap : Array Value) (w : World), (Instr.makeFunc fn first cap).run Try.prog w = .ok (.func fn first cap) w := fun _ _ _ _ => rfl
  have hn7 := hM.n7
  have hm7 := hM.m7
  have hn1 := hM.n1
  have hm1 := hM.m1
  obtain ⟨zR, hzR⟩ : ∃ z, z = madeCells #[Value.int .i64 0] (n + 1) := ⟨_, rfl⟩
  obtain ⟨zC, hzC⟩ : ∃ z, z = madeCells #[Value.int .i64 0] (m + 1) := ⟨_, rfl⟩
  obtain ⟨zL, hzL⟩ : ∃ z, z = madeCells #[Value.slice none 0 0] (n + 1) := ⟨_, rfl⟩
  have mkR : ∀ w, (Instr.makeSlice 24 (.int .i64 ((n : Int) + 1)) (.int .i64 ((n : Int) + 1))).run Try.prog w = .ok (.slice (some ⟨w.heap.size, 0, none⟩) (n + 1) (n + 1)) (w.alloc (.cells zR 3)) := fun w => by
    rw [hzR]
    exact run_make_row' 24 3 (.int .i64 0) 8 Try.underlying24 Try.infoInt rfl .i64 .i64 (n + 1) (by omega) (by omega) w
  have mkC : ∀ w, (Instr.makeSlice 24 (.int .i64 ((m : Int) + 1)) (.int .i64 ((m : Int) + 1))).run Try.prog w = .ok (.slice (some ⟨w.heap.size, 0, none⟩) (m + 1) (m + 1)) (w.alloc (.cells zC 3)) := fun w => by
    rw [hzC]
    exact run_make_row' 24 3 (.int .i64 0) 8 Try.underlying24 Try.infoInt rfl .i64 .i64 (m + 1) (by omega) (by omega) w
  have mkL : ∀ w, (Instr.makeSlice 22 (.int .i64 ((n : Int) + 1)) (.int .i64 ((n : Int) + 1))).run Try.prog w = .ok (.slice (some ⟨w.heap.size, 0, none⟩) (n + 1) (n + 1)) (w.alloc (.cells zL 24)) := fun w => by
    rw [hzL]
    exact run_make_row' 22 24 (.slice none 0 0) 24 Try.underlying22 Try.infoIntS rfl .i64 .i64 (n + 1) (by omega) (by omega) w
  obtain ⟨ad, rfl, V0, cv0, r0, _⟩ := matR_row hx (show 0 < n by omega)
  have r1 : ((w.alloc (.cells #[.int .i64 b] 3)).alloc (.cells #[.slice none 0 0, .slice none 0 0, .slice none 0 0, .slice none 0 0] 54)).cell? ad = some (.slice V0 m cv0) := by
    have r0 : w.cell? ad = some (.slice V0 m cv0) := by simpa [Addr.add] using r0
    exact cellLater (cellLater r0 (below_new _ _)) (below_new _ _)
  have bb2 : Below w.heap.size w ((w.alloc (.cells #[.int .i64 b] 3)).alloc (.cells #[.slice none 0 0, .slice none 0 0, .slice none 0 0, .slice none 0 0] 54)) := (below_new _ _).alloc (by simp) _
  have HX2 := Lib.hid (IntsS.below hx bb2)
  have HB0 := Lib.hid bb2
  have HCB : Hid (((w.alloc (.cells #[.int .i64 b] 3)).alloc (.cells #[.slice none 0 0, .slice none 0 0, .slice none 0 0, .slice none 0 0] 54)).cell? ⟨w.heap.size, 0, none⟩ = some (.int .i64 b)) := Lib.hid (box_cell (box_below (box_new w #[.int .i64 b] 3) (below_new _ _)) 0 _ rfl)
  have HRB : Hid (((w.alloc (.cells #[.int .i64 b] 3)).alloc (.cells #[.slice none 0 0, .slice none 0 0, .slice none 0 0, .slice none 0 0] 54)).heap[w.heap.size + 1]? = some (.cells #[.slice none 0 0, .slice none 0 0, .slice none 0 0, .slice none 0 0] 54 (0, 0))) := Lib.hid (by
    have h := box_new (w.alloc (.cells #[.int .i64 b] 3)) #[.slice none 0 0, .slice none 0 0, .slice none 0 0, .slice none 0 0] 54
    rwa [World.size_alloc] at h)
  have HZ2 : Hid (((w.alloc (.cells #[.int .i64 b] 3)).alloc (.cells #[.slice none 0 0, .slice none 0 0, .slice none 0 0, .slice none 0 0] 54)).heap.size = w.heap.size + 2) := Lib.hid (by simp)
  clear hx hM r0 bb2
  go_enter Try.func39, Try.ntmps39
  go_wp2_with fail
  generalize (w.alloc (.cells #[.int .i64 b] 3)).alloc (.cells #[.slice none 0 0, .slice none 0 0, .slice none 0 0, .slice none 0 0] 54) = w2 at *
  go_quiet (fail)
  clear hmf r1
  go_wp2_with fail
  have HB3 := Lib.hid (below_drewN (Below.refl w2.heap.size w2) nq)
  have HZ3 : Hid ((w2.drewN nq).heap.size = w2.heap.size) := Lib.hid rfl
  generalize w2.drewN nq = w3 at *
  obtain ⟨T1, hT1⟩ : ∃ T1, w3.heap.size = T1 := ⟨_, rfl⟩
  have HT1 := Lib.hid hT1
  clear hT1
  go_cut [9] (NetB0 w3.drew T1 (n + 1) (m + 1))
  case first =>
    have Wn : IntKind.i64.wrap ((n : Int) + 1) = (n : Int) + 1 := IntWalk.i64_in _ ⟨by omega, by omega⟩
    have Wm : IntKind.i64.wrap ((m : Int) + 1) = (m : Int) + 1 := IntWalk.i64_in _ ⟨by omega, by omega⟩
    refine AnyE.region 14 (fun _ => True) (by kernel_rfl) trivial (fun hHeld => ?_)
    have HF0 : Hid (F5 w3.drew w3.drew T1 (fun _ => false) (fun _ => 0) (netO zR zC zL)) := Lib.hid ⟨Below.refl _ _, by rw [← HT1.out]; exact Nat.le_refl _, (fun _ _ h => by cases h), (fun _ _ _ _ _ h => by cases h)⟩
    refine AnyE.take (i := 0) (d := 30) (v := ?_) rfl (by kernel_rfl) (by kernel_rfl) (by kernel_rfl) (by kernel_rfl) (by kernel_rfl) (fun _ _ _ h => h) (Or.inl ⟨by rfl, ?_⟩) (by assumption) ?_
    rotate_left
    · (intro w hSw; go_simp; try with_reducible rfl)
    simp only [Act.put, List.setIfInBounds_toArray, List.set_cons_zero, List.set_cons_succ]
    refine AnyE.take (i := 1) (d := 31) (v := ?_) rfl (by kernel_rfl) (by kernel_rfl) (by kernel_rfl) (by kernel_rfl) (by kernel_rfl) (fun _ _ _ h => h) (Or.inl ⟨by rfl, ?_⟩) (by assumption) ?_
    rotate_left
    · (intro w hSw; go_simp; try with_reducible rfl)
    simp only [Act.put, List.setIfInBounds_toArray, List.set_cons_zero, List.set_cons_succ]
    refine AnyE.take (i := 3) (d := 33) (v := ?_) rfl (by kernel_rfl) (by kernel_rfl) (by kernel_rfl) (by kernel_rfl) (by kernel_rfl) (fun _ _ _ h => h) (Or.inl ⟨by rfl, ?_⟩) (by assumption) ?_
    rotate_left
    · (intro w hSw; go_simp; try with_reducible rfl)
    simp only [Act.put, List.setIfInBounds_toArray, List.set_cons_zero, List.set_cons_succ]
    refine AnyE.take (i := 4) (d := 34) (v := ?_) rfl (by kernel_rfl) (by kernel_rfl) (by kernel_rfl) (by kernel_rfl) (by kernel_rfl) (fun _ _ _ h => h) (Or.inl ⟨by rfl, ?_⟩) (by assumption) ?_
    rotate_left
    · (intro w hSw; go_simp; try with_reducible rfl)
    simp only [Act.put, List.setIfInBounds_toArray, List.set_cons_zero, List.set_cons_succ]
    refine AnyE.take (i := 6) (d := 36) (v := ?_) rfl (by kernel_rfl) (by kernel_rfl) (by kernel_rfl) (by kernel_rfl) (by kernel_rfl) (fun _ _ _ h => h) (Or.inl ⟨by rfl, ?_⟩) (by assumption) ?_
    rotate_left
    · (intro w hSw; go_simp; try with_reducible rfl)
    simp only [Act.put, List.setIfInBounds_toArray, List.set_cons_zero, List.set_cons_succ]
    refine AnyE.take (i := 7) (d := 37) (v := ?_) rfl (by kernel_rfl) (by kernel_rfl) (by kernel_rfl) (by kernel_rfl) (by kernel_rfl) (fun _ _ _ h => h) (Or.inl ⟨by rfl, ?_⟩) (by assumption) ?_
    rotate_left
    · (intro w hSw; go_simp; try with_reducible rfl)
    simp only [Act.put, List.setIfInBounds_toArray, List.set_cons_zero, List.set_cons_succ]
    refine AnyE.take (i := 9) (d := 39) (v := ?_) rfl (by kernel_rfl) (by kernel_rfl) (by kernel_rfl) (by kernel_rfl) (by kernel_rfl) (fun _ _ _ h => h) (Or.inl ⟨by rfl, ?_⟩) (by assumption) ?_
    rotate_left
    · (intro w hSw; go_simp; try with_reducible rfl)
    simp only [Act.put, List.setIfInBounds_toArray, List.set_cons_zero, List.set_cons_succ]
    refine AnyE.take (i := 10) (d := 40) (v := ?_) rfl (by kernel_rfl) (by kernel_rfl) (by kernel_rfl) (by kernel_rfl) (by kernel_rfl) (fun _ _ _ h => h) (Or.inl ⟨by rfl, ?_⟩) (by assumption) ?_
    rotate_left
    · (intro w hSw; go_simp; try with_reducible rfl)
    simp only [Act.put, List.setIfInBounds_toArray, List.set_cons_zero, List.set_cons_succ]
    refine fan5 (T := T1) (w0 := w3.drew) (v0 := fun g => .slice (some ⟨g, 0, none⟩) (n + 1) (n + 1)) (v1 := fun g => .slice (some ⟨g, 0, none⟩) (m + 1) (m + 1)) (v2 := fun g => .slice (some ⟨g, 0, none⟩) (n + 1) (n + 1)) (v3 := fun g => .slice (some ⟨g, 0, none⟩) (n + 1) (n + 1)) (vx := fun g => .pointer (some ⟨g, 0, none⟩))
      (fun a' w K e h => mkOp (v := fun g => .slice (some ⟨g, 0, none⟩) (n + 1) (n + 1)) (s := 31) rfl rfl rfl rfl (e.trans rfl) mkR h) (fun a' w K e h => mkOp (v := fun g => .slice (some ⟨g, 0, none⟩) (m + 1) (m + 1)) (s := 34) rfl rfl rfl rfl (e.trans rfl) mkC h) (fun a' w K e h => mkOp (v := fun g => .slice (some ⟨g, 0, none⟩) (n + 1) (n + 1)) (s := 37) rfl rfl rfl rfl (e.trans rfl) mkL h) (fun a' w K e h => mkOp (v := fun g => .slice (some ⟨g, 0, none⟩) (n + 1) (n + 1)) (s := 40) rfl rfl rfl rfl (e.trans rfl) mkL h)
      (fun a' w K h => wpOp_step rfl (fun K' hK => by go_simp; exact hK _ _ h)) (by intro b0 b1 b2 b3 bx; cases b0 <;> cases b1 <;> cases b2 <;> cases b3 <;> cases bx <;> kernel_rfl) ?_ ?_ 5 (fun _ => false) (fun _ => 0) _ rfl HF0.out
    · intro g w hF
      clear mkL mkR mkC Wn Wm
      simp only [ac5, putIf, if_true, Act.put, List.setIfInBounds_toArray, List.set_cons_zero, List.set_cons_succ]
      refine AnyE.take (i := 12) (d := 42) (v := ?_) rfl (by kernel_rfl) (by kernel_rfl) (by kernel_rfl) (by kernel_rfl) (by kernel_rfl) (fun _ _ _ h => h) (Or.inl ⟨by rfl, ?_⟩) (by assumption) ?_
      rotate_left
      · (intro w hSw; go_simp; try with_reducible rfl)
      simp only [Act.put, List.setIfInBounds_toArray, List.set_cons_zero, List.set_cons_succ]
      have hx4 : w.heap[g 4]? = some (.cells #[.slice none 0 0, .slice none 0 0, .slice none 0 0, .slice none 0 0] 54 (0, 0)) := (hF.at_ 4 (by omega) rfl).1
      have HN := Lib.hid (net_begin (n := n + 1) (m := m + 1) (by omega) (by omega) hF (by show Obj.cells zR _ = _; rw [hzR]) (by show Obj.cells zC _ = _; rw [hzC]) (by show Obj.cells zL _ = _; rw [hzL]) (by show Obj.cells zL _ = _; rw [hzL]) rfl)
      have v0 := box_cell hx4 0 (.slice none 0 0) rfl
      have v1 := box_cell hx4 1 (.slice none 0 0) rfl
      have v2 := box_cell hx4 2 (.slice none 0 0) rfl
      have v3 := box_cell hx4 3 (.slice none 0 0) rfl
      have y0 := box_free hx4 0
      have y1 := box_free hx4 1
      have y2 := box_free hx4 2
      have y3 := box_free hx4 3
      clear hx4 hF
      refine AnyE.last (i := 14) (by kernel_rfl) rfl rfl (by kernel_rfl) (fun K hK => ?_)
      go_simp
      refine hK.out _ _ ?_
      clear hK K
      go_wp2_with fail
      go_meet
      exact HN.out
    · intro g w hF
      clear mkL mkR mkC Wn Wm
      simp only [ac5, putIf, if_true, if_false, Act.put, List.setIfInBounds_toArray, List.set_cons_zero, List.set_cons_succ, Bool.false_eq_true]
      refine AnyE.take (i := 12) (d := 42) (v := ?_) rfl (by kernel_rfl) (by kernel_rfl) (by kernel_rfl) (by kernel_rfl) (by kernel_rfl) (fun _ _ _ h => h) (Or.inl ⟨by rfl, ?_⟩) (by assumption) ?_
      rotate_left
      · (intro w hSw; go_simp; try with_reducible rfl)
      simp only [Act.put, List.setIfInBounds_toArray, List.set_cons_zero, List.set_cons_succ]
      have hF2 : F5 w3.drew (w.alloc (.cells #[.slice none 0 0, .slice none 0 0, .slice none 0 0, .slice none 0 0] 54)) T1 (fun _ => true) (upG g 4 w.heap.size) (netO zR zC zL) := by
        have h := F5.step (q := 4) hF
        refine ⟨h.below, h.sz, fun q hq _ => h.at_ q hq ?_, fun q r hq hr hqr _ _ => h.ne q r hq hr hqr ?_ ?_⟩
        all_goals (unfold upB; split)
        all_goals first | rfl | (simp; omega)
      refine AnyE.step (i := 13) (by kernel_rfl) (by rfl) rfl (fun K hK => ?_)
      go_simp
      refine hK.out _ _ trivial (fun hHeld => ?_)
      clear hK K
      try simp only [Act.put, List.setIfInBounds_toArray, List.set_cons_zero, List.set_cons_succ]
      clear hF
      obtain ⟨w5, hw5⟩ : ∃ w5, w5 = w.alloc (.cells #[.slice none 0 0, .slice none 0 0, .slice none 0 0, .slice none 0 0] 54) := ⟨_, rfl⟩
      rw [← hw5] at hF2 ⊢
      clear hw5
      have hx4 : (w5).heap[w.heap.size]? = some (.cells #[.slice none 0 0, .slice none 0 0, .slice none 0 0, .slice none 0 0] 54 (0, 0)) := (hF2.at_ 4 (by omega) rfl).1
      have HN := Lib.hid (net_begin (n := n + 1) (m := m + 1) (by omega) (by omega) hF2 (by show Obj.cells zR _ = _; rw [hzR]) (by show Obj.cells zC _ = _; rw [hzC]) (by show Obj.cells zL _ = _; rw [hzL]) (by show Obj.cells zL _ = _; rw [hzL]) rfl)
      have v0 := box_cell hx4 0 (.slice none 0 0) rfl
      have v1 := box_cell hx4 1 (.slice none 0 0) rfl
      have v2 := box_cell hx4 2 (.slice none 0 0) rfl
      have v3 := box_cell hx4 3 (.slice none 0 0) rfl
      have y0 := box_free hx4 0
      have y1 := box_free hx4 1
      have y2 := box_free hx4 2
      have y3 := box_free hx4 3
      clear hx4 hF2
      refine AnyE.last (i := 14) (by kernel_rfl) rfl rfl (by kernel_rfl) (fun K hK => ?_)
      go_simp
      refine hK.out _ _ ?_
      clear hK K
      go_wp2_with fail
      go_meet
      exact HN.out
  case rest =>
    obtain ⟨gx, f, D, C, A, E, rfl, hgx, hbox, hN, hB, hz⟩ := hcut
    have HBx := Lib.hid hbox
    have HN := Lib.hid hN
    have HB := Lib.hid (show Below T1 w3.drew wc from hB)
    have HZC := Lib.hid hzC
    have Wm : IntKind.i64.wrap ((m : Int) + 1) = (m : Int) + 1 := IntWalk.i64_in _ ⟨by omega, by omega⟩
    have c2 := box_cell hbox 2 (.slice A (n + 1) (n + 1)) rfl
    clear hbox hN hB hzC hzR hzL mkR mkL
    go_wp2_with fail
    clear c2
    go_loopw [46] (fun iv wr => ∃ (i : Nat) (f : Nat → Option Rw), i ≤ n + 1 ∧ iv = .int .i64 i ∧ Hid (wr.heap[gx]? = some (.cells #[.slice D (n + 1) (n + 1), .slice C (m + 1) (m + 1), .slice A (n + 1) (n + 1), .slice E (n + 1) (n + 1)] 54 (0, 0))) ∧ Hid (NetW wr T1 f D C A E (n + 1) (m + 1) (n + 1) (n + 1) i (zeroN (n + 1) (m + 1))) ∧ Hid (Below T1 w3.drew wr) ∧ T1 ≤ wr.heap.size) (fun iv _ => (n + 1) - (intOf iv).toNat)
    case atStart => exact ⟨0, f, Nat.zero_le _, rfl, HBx, HN, HB, hz⟩
    case round =>
      clear HBx HN HB hz
      obtain ⟨i, f, hi, rfl, HBx, HN, HB, hz⟩ := hrel
      by_cases hlt : i < n + 1
      · have bdr := (Below.refl wr.heap.size wr).drew
        obtain ⟨wd, HWd⟩ : ∃ wd, Hid (wd = wr.drew) := ⟨_, Lib.hid rfl⟩
        have HNd : Hid (NetW wd T1 f D C A E (n + 1) (m + 1) (n + 1) (n + 1) i (zeroN (n + 1) (m + 1))) := Lib.hid (by rw [HWd.out]; exact HN.out.below bdr)
        have HBx0 : Hid (wd.heap[gx]? = some (.cells #[.slice D (n + 1) (n + 1), .slice C (m + 1) (m + 1), .slice A (n + 1) (n + 1), .slice E (n + 1) (n + 1)] 54 (0, 0))) := Lib.hid (by rw [HWd.out]; exact HBx.out)
        have HB0d : Hid (Below T1 w3.drew wd) := Lib.hid (by rw [HWd.out]; exact HB.out.drew)
        have hzd : T1 ≤ wd.heap.size := by rw [HWd.out]; exact hz
        clear HN HB HBx hz bdr
        obtain ⟨gA, gE, rfl, rfl, hAE, ⟨uA, cA⟩, frA, ⟨uE, cE⟩, frE, bA, sA, bE, sE, hoff, back⟩ := HNd.out.rows hlt (by show m + 1 ≤ 1000; omega) hzd (fun j => ⟨rfl, rfl⟩)
        obtain ⟨hgxA, hgxE⟩ := hoff gx _ _ HBx0.out (by decide)
        have HBack := Lib.hid back
        have sx := lt_of_block HBx0.out
        have c2 := box_cell HBx0.out 2 (.slice (some ⟨gA, 0, none⟩) (n + 1) (n + 1)) rfl
        have c3 := box_cell HBx0.out 3 (.slice (some ⟨gE, 0, none⟩) (n + 1) (n + 1)) rfl
        have HS : Hid (∀ W : World, W.heap[gx]? = wd.heap[gx]? → W.cell? ⟨gx, 2, none⟩ = some (.slice (some ⟨gA, 0, none⟩) (n + 1) (n + 1)) ∧ W.cell? ⟨gx, 3, none⟩ = some (.slice (some ⟨gE, 0, none⟩) (n + 1) (n + 1))) := Lib.hid (fun W hW => ⟨(World.cell?_of_block hW).trans c2, (World.cell?_of_block hW).trans c3⟩)
        have HBx := HBx0
        have HB := HB0d
        have hz := hzd
        clear hoff back HBx0 HB0d hzd
        go_wp2_with fail
        refine AnyE.region 15 (fun w' => w'.cell? ⟨gx, 2, none⟩ = some (.slice (some ⟨gA, 0, none⟩) (n + 1) (n + 1)) ∧ w'.cell? ⟨gx, 3, none⟩ = some (.slice (some ⟨gE, 0, none⟩) (n + 1) (n + 1))) (by kernel_rfl) (by rw [← HWd.out]; exact ⟨c2, c3⟩) (fun hHeld => ?_)
        rw [← HWd.out] at hHeld ⊢
        refine AnyE.take (i := 0) (d := 49) (v := ?_) rfl (by kernel_rfl) (by kernel_rfl) (by kernel_rfl) (by kernel_rfl) (by kernel_rfl) (fun _ _ _ h => h) (Or.inl ⟨by rfl, ?_⟩) (by assumption) ?_
        rotate_left
        · (intro w hSw; obtain ⟨hS1, hS2⟩ := hSw; go_simp; try with_reducible rfl)
        simp only [Act.put, List.setIfInBounds_toArray, List.set_cons_zero, List.set_cons_succ]
        refine AnyE.take (i := 1) (d := 50) (v := ?_) rfl (by kernel_rfl) (by kernel_rfl) (by kernel_rfl) (by kernel_rfl) (by kernel_rfl) (fun _ _ _ h => h) (Or.inl ⟨by rfl, ?_⟩) (by assumption) ?_
        rotate_left
        · (intro w hSw; obtain ⟨hS1, hS2⟩ := hSw; go_simp; try with_reducible rfl)
        simp only [Act.put, List.setIfInBounds_toArray, List.set_cons_zero, List.set_cons_succ]
        refine AnyE.take (i := 2) (d := 51) (v := ?_) rfl (by kernel_rfl) (by kernel_rfl) (by kernel_rfl) (by kernel_rfl) (by kernel_rfl) (fun _ _ _ h => h) (Or.inl ⟨by rfl, ?_⟩) (by assumption) ?_
        rotate_left
        · (intro w hSw; obtain ⟨hS1, hS2⟩ := hSw; go_simp; try with_reducible rfl)
        simp only [Act.put, List.setIfInBounds_toArray, List.set_cons_zero, List.set_cons_succ]
        refine AnyE.take (i := 3) (d := 52) (v := ?_) rfl (by kernel_rfl) (by kernel_rfl) (by kernel_rfl) (by kernel_rfl) (by kernel_rfl) (fun _ _ _ h => h) (Or.inl ⟨by rfl, ?_⟩) (by assumption) ?_
        rotate_left
        · (intro w hSw; obtain ⟨hS1, hS2⟩ := hSw; go_simp; try with_reducible rfl)
        simp only [Act.put, List.setIfInBounds_toArray, List.set_cons_zero, List.set_cons_succ]
        refine AnyE.take (i := 4) (d := 53) (v := ?_) rfl (by kernel_rfl) (by kernel_rfl) (by kernel_rfl) (by kernel_rfl) (by kernel_rfl) (fun _ _ _ h => h) (Or.inl ⟨by rfl, ?_⟩) (by assumption) ?_
        rotate_left
        · (intro w hSw; obtain ⟨hS1, hS2⟩ := hSw; go_simp; try with_reducible rfl)
        simp only [Act.put, List.setIfInBounds_toArray, List.set_cons_zero, List.set_cons_succ]
        refine AnyE.take (i := 5) (d := 54) (v := ?_) rfl (by kernel_rfl) (by kernel_rfl) (by kernel_rfl) (by kernel_rfl) (by kernel_rfl) (fun _ _ _ h => h) (Or.inl ⟨by rfl, ?_⟩) (by assumption) ?_
        rotate_left
        · (intro w hSw; obtain ⟨hS1, hS2⟩ := hSw; go_simp; try with_reducible rfl)
        simp only [Act.put, List.setIfInBounds_toArray, List.set_cons_zero, List.set_cons_succ]
        refine AnyE.take (i := 6) (d := 55) (v := ?_) rfl (by kernel_rfl) (by kernel_rfl) (by kernel_rfl) (by kernel_rfl) (by kernel_rfl) (fun _ _ _ h => h) (Or.inl ⟨by rfl, ?_⟩) (by assumption) ?_
        rotate_left
        · (intro w hSw; obtain ⟨hS1, hS2⟩ := hSw; go_simp; try with_reducible rfl)
        simp only [Act.put, List.setIfInBounds_toArray, List.set_cons_zero, List.set_cons_succ]
        refine AnyE.take (i := 7) (d := 56) (v := ?_) rfl (by kernel_rfl) (by kernel_rfl) (by kernel_rfl) (by kernel_rfl) (by kernel_rfl) (fun _ _ _ h => h) (Or.inl ⟨by rfl, ?_⟩) (by assumption) ?_
        rotate_left
        · (intro w hSw; obtain ⟨hS1, hS2⟩ := hSw; go_simp; try with_reducible rfl)
        simp only [Act.put, List.setIfInBounds_toArray, List.set_cons_zero, List.set_cons_succ]
        refine AnyE.take (i := 9) (d := 58) (v := ?_) rfl (by kernel_rfl) (by kernel_rfl) (by kernel_rfl) (by kernel_rfl) (by kernel_rfl) (fun _ _ _ h => h) (Or.inl ⟨by rfl, ?_⟩) (by assumption) ?_
        rotate_left
        · (intro w hSw; obtain ⟨hS1, hS2⟩ := hSw; go_simp; try with_reducible rfl)
        simp only [Act.put, List.setIfInBounds_toArray, List.set_cons_zero, List.set_cons_succ]
        refine AnyE.take (i := 10) (d := 59) (v := ?_) rfl (by kernel_rfl) (by kernel_rfl) (by kernel_rfl) (by kernel_rfl) (by kernel_rfl) (fun _ _ _ h => h) (Or.inl ⟨by rfl, ?_⟩) (by assumption) ?_
        rotate_left
        · (intro w hSw; obtain ⟨hS1, hS2⟩ := hSw; go_simp; try with_reducible rfl)
        simp only [Act.put, List.setIfInBounds_toArray, List.set_cons_zero, List.set_cons_succ]
        refine AnyE.two (i := 8) (j := 11) (by kernel_rfl) ?_ ?_
        · refine mkOp (i := 8) (d := 57) (v := fun g => .slice (some ⟨g, 0, none⟩) (m + 1) (m + 1)) (s := 56) rfl rfl rfl rfl (by rfl) mkC ⟨fun _ => HS.out _ ((below_new wd (.cells zC 3)).block _ sx), ?_⟩
          have hHeld := HS.out _ ((below_new wd (.cells zC 3)).block _ sx)
          simp only [Act.put, List.setIfInBounds_toArray, List.set_cons_zero, List.set_cons_succ]
          refine AnyE.take (i := 12) (d := 61) (v := ?_) rfl (by kernel_rfl) (by kernel_rfl) (by kernel_rfl) (by kernel_rfl) (by kernel_rfl) (fun _ _ _ h => h) (Or.inl ⟨by rfl, ?_⟩) (by assumption) ?_
          rotate_left
          · (intro w hSw; go_simp; try with_reducible rfl)
          simp only [Act.put, List.setIfInBounds_toArray, List.set_cons_zero, List.set_cons_succ]
          refine AnyE.two (i := 11) (j := 13) (by kernel_rfl) ?_ ?_
          · refine mkOp (i := 11) (d := 60) (v := fun g => .slice (some ⟨g, 0, none⟩) (m + 1) (m + 1)) (s := 59) rfl rfl rfl rfl (by rfl) mkC ⟨fun _ => HS.out _ (((below_new (wd.alloc (.cells zC 3)) (.cells zC 3)).block _ (by rw [World.size_alloc]; omega)).trans ((below_new wd (.cells zC 3)).block _ sx)), ?_⟩
            have hHeld := HS.out _ (((below_new (wd.alloc (.cells zC 3)) (.cells zC 3)).block _ (by rw [World.size_alloc]; omega)).trans ((below_new wd (.cells zC 3)).block _ sx))
            simp only [Act.put, List.setIfInBounds_toArray, List.set_cons_zero, List.set_cons_succ]
            obtain ⟨wz, HWz⟩ : ∃ wz, Hid (wz = ((wd.alloc (.cells zC 3)).alloc (.cells zC 3))) := ⟨_, Lib.hid rfl⟩
            rw [← HWz.out] at hHeld ⊢
            obtain ⟨q1, HQ1⟩ : ∃ q1, Hid (q1 = (wd.alloc (.cells zC 3)).heap.size) := ⟨_, Lib.hid rfl⟩
            rw [← HQ1.out]
            have kA : wz.cell? ⟨gA, i, none⟩ = some uA := (by rw [HWz.out]; exact (World.cell?_of_block (((below_new (wd.alloc (.cells zC 3)) (.cells zC 3)).block _ (show gA < (wd.alloc (.cells zC 3)).heap.size by rw [World.size_alloc]; omega)).trans ((below_new wd (.cells zC 3)).block _ sA))).trans cA)
            have lA : wz.frozen? ⟨gA, i, none⟩ = false := (by rw [HWz.out]; exact (World.frozen?_of_block (((below_new (wd.alloc (.cells zC 3)) (.cells zC 3)).block _ (show gA < (wd.alloc (.cells zC 3)).heap.size by rw [World.size_alloc]; omega)).trans ((below_new wd (.cells zC 3)).block _ sA))).trans frA)
            have kE : (wz.setCell ⟨gA, i, none⟩ (.slice (some ⟨wd.heap.size, 0, none⟩) (m + 1) (m + 1))).cell? ⟨gE, i, none⟩ = some uE := (World.cell?_of_block ((Below.heap_setCell wz ⟨gA, i, none⟩ _ gE (Ne.symm hAE)).trans (by rw [HWz.out]; exact ((below_new (wd.alloc (.cells zC 3)) (.cells zC 3)).block _ (show gE < (wd.alloc (.cells zC 3)).heap.size by rw [World.size_alloc]; omega)).trans ((below_new wd (.cells zC 3)).block _ sE)))).trans cE
            have lE : (wz.setCell ⟨gA, i, none⟩ (.slice (some ⟨wd.heap.size, 0, none⟩) (m + 1) (m + 1))).frozen? ⟨gE, i, none⟩ = false := (World.frozen?_of_block ((Below.heap_setCell wz ⟨gA, i, none⟩ _ gE (Ne.symm hAE)).trans (by rw [HWz.out]; exact ((below_new (wd.alloc (.cells zC 3)) (.cells zC 3)).block _ (show gE < (wd.alloc (.cells zC 3)).heap.size by rw [World.size_alloc]; omega)).trans ((below_new wd (.cells zC 3)).block _ sE)))).trans frE
            refine AnyE.step (i := 13) (by kernel_rfl) (by rfl) rfl (fun K hK => ?_)
            go_simp
            refine hK.out _ _ ?_ (fun hHeld => ?_)
            · exact HS.out _ ((Below.heap_setCell wz ⟨gA, i, none⟩ _ gx hgxA).trans (by rw [HWz.out]; exact ((below_new (wd.alloc (.cells zC 3)) (.cells zC 3)).block _ (by rw [World.size_alloc]; omega)).trans ((below_new wd (.cells zC 3)).block _ sx)))
            clear hK K
            try simp only [Act.put, List.setIfInBounds_toArray, List.set_cons_zero, List.set_cons_succ]
            refine AnyE.take (i := 14) (d := 62) (v := ?_) rfl (by kernel_rfl) (by kernel_rfl) (by kernel_rfl) (by kernel_rfl) (by kernel_rfl) (fun _ _ _ h => h) (Or.inl ⟨by rfl, ?_⟩) (by assumption) ?_
            rotate_left
            · (intro w hSw; go_simp; try with_reducible rfl)
            simp only [Act.put, List.setIfInBounds_toArray, List.set_cons_zero, List.set_cons_succ]
            refine AnyE.last (i := 15) (by kernel_rfl) rfl rfl (by kernel_rfl) (fun K hK => ?_)
            go_simp
            refine hK.out _ _ ?_
            clear hK K
            have HT : Hid (TwoRows wd ((wz.setCell ⟨gA, i, none⟩ (.slice (some ⟨wd.heap.size, 0, none⟩) (m + 1) (m + 1))).setCell ⟨gE, i, none⟩ (.slice (some ⟨q1, 0, none⟩) (m + 1) (m + 1))) (.cells zC 3) gA gE i (wd.heap.size) (q1) (.slice (some ⟨wd.heap.size, 0, none⟩) (m + 1) (m + 1)) (.slice (some ⟨q1, 0, none⟩) (m + 1) (m + 1))) := Lib.hid (by rw [HWz.out, HQ1.out]; exact (two_rows (w := wd) (Z := .cells zC 3) (gA := gA) (gE := gE) (k := i) sA sE hAE).1)
            obtain ⟨f', hN'⟩ := NetW.rows2 (t := zeroN (n + 1) (m + 1)) HBack.out HZC.out HT.out
            have HN2 := Lib.hid hN'
            have HBx2 := Lib.hid ((HT.out.2.2.2.2.2.2.2.2 gx (lt_of_block HBx.out) hgxA hgxE).trans HBx.out)
            have HB2 : Hid (Below T1 w3.drew ((wz.setCell ⟨gA, i, none⟩ (.slice (some ⟨wd.heap.size, 0, none⟩) (m + 1) (m + 1))).setCell ⟨gE, i, none⟩ (.slice (some ⟨q1, 0, none⟩) (m + 1) (m + 1)))) := Lib.hid ((((by rw [HWz.out]; exact ((HB.out.alloc hz _).alloc (by rw [World.size_alloc]; omega) _)) : Below T1 w3.drew wz).setCell (p := ⟨gA, i, none⟩) bA _).setCell (p := ⟨gE, i, none⟩) bE _)
            have hz2 := Nat.le_trans hz HT.out.2.2.2.1
            clear HT hN'
            go_wp2
            go_roundw
            case rel => exact ⟨i + 1, f', by omega, by go_num, HBx2, HN2, HB2, hz2⟩
            case measure => simp [intOf]; omega
          · obtain ⟨wy, HWy⟩ : ∃ wy, Hid (wy = (wd.alloc (.cells zC 3))) := ⟨_, Lib.hid rfl⟩
            rw [← HWy.out] at hHeld ⊢
            have kA : wy.cell? ⟨gA, i, none⟩ = some uA := (by rw [HWy.out]; exact (World.cell?_of_block ((below_new wd (.cells zC 3)).block _ sA)).trans cA)
            have lA : wy.frozen? ⟨gA, i, none⟩ = false := (by rw [HWy.out]; exact (World.frozen?_of_block ((below_new wd (.cells zC 3)).block _ sA)).trans frA)
            refine wpOp_step rfl (fun K hK => ?_)
            go_simp
            refine hK _ _ ⟨fun _ => HS.out _ ((Below.heap_setCell wy ⟨gA, i, none⟩ _ gx hgxA).trans (by rw [HWy.out]; exact (below_new wd (.cells zC 3)).block _ sx)), ?_⟩
            have hHeld := HS.out (wy.setCell ⟨gA, i, none⟩ (.slice (some ⟨wd.heap.size, 0, none⟩) (m + 1) (m + 1))) ((Below.heap_setCell wy ⟨gA, i, none⟩ _ gx hgxA).trans (by rw [HWy.out]; exact (below_new wd (.cells zC 3)).block _ sx))
            clear hK K
            try simp only [Act.put, List.setIfInBounds_toArray, List.set_cons_zero, List.set_cons_succ]
            refine AnyE.one (i := 11) (by kernel_rfl) ?_
            refine mkOp (i := 11) (d := 60) (v := fun g => .slice (some ⟨g, 0, none⟩) (m + 1) (m + 1)) (s := 59) rfl rfl rfl rfl (by rfl) mkC ⟨fun _ => HS.out _ (((below_new (wy.setCell ⟨gA, i, none⟩ (.slice (some ⟨wd.heap.size, 0, none⟩) (m + 1) (m + 1))) (.cells zC 3)).block _ (show gx < (wy.setCell ⟨gA, i, none⟩ (.slice (some ⟨wd.heap.size, 0, none⟩) (m + 1) (m + 1))).heap.size by rw [HWy.out]; simp; omega)).trans ((Below.heap_setCell wy ⟨gA, i, none⟩ _ gx hgxA).trans (by rw [HWy.out]; exact (below_new wd (.cells zC 3)).block _ sx))), ?_⟩
            have hHeld := HS.out _ (((below_new (wy.setCell ⟨gA, i, none⟩ (.slice (some ⟨wd.heap.size, 0, none⟩) (m + 1) (m + 1))) (.cells zC 3)).block _ (show gx < (wy.setCell ⟨gA, i, none⟩ (.slice (some ⟨wd.heap.size, 0, none⟩) (m + 1) (m + 1))).heap.size by rw [HWy.out]; simp; omega)).trans ((Below.heap_setCell wy ⟨gA, i, none⟩ _ gx hgxA).trans (by rw [HWy.out]; exact (below_new wd (.cells zC 3)).block _ sx)))
            simp only [Act.put, List.setIfInBounds_toArray, List.set_cons_zero, List.set_cons_succ]
            obtain ⟨wz, HWz⟩ : ∃ wz, Hid (wz = ((wy.setCell ⟨gA, i, none⟩ (.slice (some ⟨wd.heap.size, 0, none⟩) (m + 1) (m + 1))).alloc (.cells zC 3))) := ⟨_, Lib.hid rfl⟩
            rw [← HWz.out] at hHeld ⊢
            obtain ⟨q1, HQ1⟩ : ∃ q1, Hid (q1 = (wy.setCell ⟨gA, i, none⟩ (.slice (some ⟨wd.heap.size, 0, none⟩) (m + 1) (m + 1))).heap.size) := ⟨_, Lib.hid rfl⟩
            rw [← HQ1.out]
            have kE : wz.cell? ⟨gE, i, none⟩ = some uE := (by rw [HWz.out]; exact (World.cell?_of_block (((below_new (wy.setCell ⟨gA, i, none⟩ (.slice (some ⟨wd.heap.size, 0, none⟩) (m + 1) (m + 1))) (.cells zC 3)).block _ (show gE < (wy.setCell ⟨gA, i, none⟩ (.slice (some ⟨wd.heap.size, 0, none⟩) (m + 1) (m + 1))).heap.size by rw [HWy.out]; simp; omega)).trans ((Below.heap_setCell wy ⟨gA, i, none⟩ _ gE (Ne.symm hAE)).trans (by rw [HWy.out]; exact (below_new wd (.cells zC 3)).block _ sE)))).trans cE)
            have lE : wz.frozen? ⟨gE, i, none⟩ = false := (by rw [HWz.out]; exact (World.frozen?_of_block (((below_new (wy.setCell ⟨gA, i, none⟩ (.slice (some ⟨wd.heap.size, 0, none⟩) (m + 1) (m + 1))) (.cells zC 3)).block _ (show gE < (wy.setCell ⟨gA, i, none⟩ (.slice (some ⟨wd.heap.size, 0, none⟩) (m + 1) (m + 1))).heap.size by rw [HWy.out]; simp; omega)).trans ((Below.heap_setCell wy ⟨gA, i, none⟩ _ gE (Ne.symm hAE)).trans (by rw [HWy.out]; exact (below_new wd (.cells zC 3)).block _ sE)))).trans frE)
            refine AnyE.take (i := 14) (d := 62) (v := ?_) rfl (by kernel_rfl) (by kernel_rfl) (by kernel_rfl) (by kernel_rfl) (by kernel_rfl) (fun _ _ _ h => h) (Or.inl ⟨by rfl, ?_⟩) (by assumption) ?_
            rotate_left
            · (intro w hSw; go_simp; try with_reducible rfl)
            simp only [Act.put, List.setIfInBounds_toArray, List.set_cons_zero, List.set_cons_succ]
            refine AnyE.last (i := 15) (by kernel_rfl) rfl rfl (by kernel_rfl) (fun K hK => ?_)
            go_simp
            refine hK.out _ _ ?_
            clear hK K
            have HT : Hid (TwoRows wd (wz.setCell ⟨gE, i, none⟩ (.slice (some ⟨q1, 0, none⟩) (m + 1) (m + 1))) (.cells zC 3) gA gE i (wd.heap.size) (q1) (.slice (some ⟨wd.heap.size, 0, none⟩) (m + 1) (m + 1)) (.slice (some ⟨q1, 0, none⟩) (m + 1) (m + 1))) := Lib.hid (by rw [HWz.out, HQ1.out, HWy.out]; exact two_rows' (w := wd) (Z := .cells zC 3) (gA := gA) (gE := gE) (k := i) sA sE hAE)
            obtain ⟨f', hN'⟩ := NetW.rows2 (t := zeroN (n + 1) (m + 1)) HBack.out HZC.out HT.out
            have HN2 := Lib.hid hN'
            have HBx2 := Lib.hid ((HT.out.2.2.2.2.2.2.2.2 gx (lt_of_block HBx.out) hgxA hgxE).trans HBx.out)
            have HB2 : Hid (Below T1 w3.drew (wz.setCell ⟨gE, i, none⟩ (.slice (some ⟨q1, 0, none⟩) (m + 1) (m + 1)))) := Lib.hid (((by rw [HWz.out]; exact (((show Below T1 w3.drew wy by rw [HWy.out]; exact HB.out.alloc hz _).setCell (p := ⟨gA, i, none⟩) bA _).alloc (by rw [HWy.out]; simp; omega) _)) : Below T1 w3.drew wz).setCell (p := ⟨gE, i, none⟩) bE _)
            have hz2 := Nat.le_trans hz HT.out.2.2.2.1
            clear HT hN'
            go_wp2
            go_roundw
            case rel => exact ⟨i + 1, f', by omega, by go_num, HBx2, HN2, HB2, hz2⟩
            case measure => simp [intOf]; omega
        · refine mkOp (i := 11) (d := 60) (v := fun g => .slice (some ⟨g, 0, none⟩) (m + 1) (m + 1)) (s := 59) rfl rfl rfl rfl (by rfl) mkC ⟨fun _ => HS.out _ ((below_new wd (.cells zC 3)).block _ sx), ?_⟩
          have hHeld := HS.out _ ((below_new wd (.cells zC 3)).block _ sx)
          simp only [Act.put, List.setIfInBounds_toArray, List.set_cons_zero, List.set_cons_succ]
          refine AnyE.one (i := 8) (by kernel_rfl) ?_
          refine mkOp (i := 8) (d := 57) (v := fun g => .slice (some ⟨g, 0, none⟩) (m + 1) (m + 1)) (s := 56) rfl rfl rfl rfl (by rfl) mkC ⟨fun _ => HS.out _ (((below_new (wd.alloc (.cells zC 3)) (.cells zC 3)).block _ (by rw [World.size_alloc]; omega)).trans ((below_new wd (.cells zC 3)).block _ sx)), ?_⟩
          have hHeld := HS.out _ (((below_new (wd.alloc (.cells zC 3)) (.cells zC 3)).block _ (by rw [World.size_alloc]; omega)).trans ((below_new wd (.cells zC 3)).block _ sx))
          simp only [Act.put, List.setIfInBounds_toArray, List.set_cons_zero, List.set_cons_succ]
          refine AnyE.take (i := 12) (d := 61) (v := ?_) rfl (by kernel_rfl) (by kernel_rfl) (by kernel_rfl) (by kernel_rfl) (by kernel_rfl) (fun _ _ _ h => h) (Or.inl ⟨by rfl, ?_⟩) (by assumption) ?_
          rotate_left
          · (intro w hSw; go_simp; try with_reducible rfl)
          simp only [Act.put, List.setIfInBounds_toArray, List.set_cons_zero, List.set_cons_succ]
          obtain ⟨wz, HWz⟩ : ∃ wz, Hid (wz = ((wd.alloc (.cells zC 3)).alloc (.cells zC 3))) := ⟨_, Lib.hid rfl⟩
          rw [← HWz.out] at hHeld ⊢
          obtain ⟨q1, HQ1⟩ : ∃ q1, Hid (q1 = (wd.alloc (.cells zC 3)).heap.size) := ⟨_, Lib.hid rfl⟩
          rw [← HQ1.out]
          have kA : wz.cell? ⟨gA, i, none⟩ = some uA := (by rw [HWz.out]; exact (World.cell?_of_block (((below_new (wd.alloc (.cells zC 3)) (.cells zC 3)).block _ (show gA < (wd.alloc (.cells zC 3)).heap.size by rw [World.size_alloc]; omega)).trans ((below_new wd (.cells zC 3)).block _ sA))).trans cA)
          have lA : wz.frozen? ⟨gA, i, none⟩ = false := (by rw [HWz.out]; exact (World.frozen?_of_block (((below_new (wd.alloc (.cells zC 3)) (.cells zC 3)).block _ (show gA < (wd.alloc (.cells zC 3)).heap.size by rw [World.size_alloc]; omega)).trans ((below_new wd (.cells zC 3)).block _ sA))).trans frA)
          have kE : (wz.setCell ⟨gA, i, none⟩ (.slice (some ⟨q1, 0, none⟩) (m + 1) (m + 1))).cell? ⟨gE, i, none⟩ = some uE := (World.cell?_of_block ((Below.heap_setCell wz ⟨gA, i, none⟩ _ gE (Ne.symm hAE)).trans (by rw [HWz.out]; exact ((below_new (wd.alloc (.cells zC 3)) (.cells zC 3)).block _ (show gE < (wd.alloc (.cells zC 3)).heap.size by rw [World.size_alloc]; omega)).trans ((below_new wd (.cells zC 3)).block _ sE)))).trans cE
          have lE : (wz.setCell ⟨gA, i, none⟩ (.slice (some ⟨q1, 0, none⟩) (m + 1) (m + 1))).frozen? ⟨gE, i, none⟩ = false := (World.frozen?_of_block ((Below.heap_setCell wz ⟨gA, i, none⟩ _ gE (Ne.symm hAE)).trans (by rw [HWz.out]; exact ((below_new (wd.alloc (.cells zC 3)) (.cells zC 3)).block _ (show gE < (wd.alloc (.cells zC 3)).heap.size by rw [World.size_alloc]; omega)).trans ((below_new wd (.cells zC 3)).block _ sE)))).trans frE
          refine AnyE.step (i := 13) (by kernel_rfl) (by rfl) rfl (fun K hK => ?_)
          go_simp
          refine hK.out _ _ ?_ (fun hHeld => ?_)
          · exact HS.out _ ((Below.heap_setCell wz ⟨gA, i, none⟩ _ gx hgxA).trans (by rw [HWz.out]; exact ((below_new (wd.alloc (.cells zC 3)) (.cells zC 3)).block _ (by rw [World.size_alloc]; omega)).trans ((below_new wd (.cells zC 3)).block _ sx)))
          clear hK K
          try simp only [Act.put, List.setIfInBounds_toArray, List.set_cons_zero, List.set_cons_succ]
          refine AnyE.take (i := 14) (d := 62) (v := ?_) rfl (by kernel_rfl) (by kernel_rfl) (by kernel_rfl) (by kernel_rfl) (by kernel_rfl) (fun _ _ _ h => h) (Or.inl ⟨by rfl, ?_⟩) (by assumption) ?_
          rotate_left
          · (intro w hSw; go_simp; try with_reducible rfl)
          simp only [Act.put, List.setIfInBounds_toArray, List.set_cons_zero, List.set_cons_succ]
          refine AnyE.last (i := 15) (by kernel_rfl) rfl rfl (by kernel_rfl) (fun K hK => ?_)
          go_simp
          refine hK.out _ _ ?_
          clear hK K
          have HT : Hid (TwoRows wd ((wz.setCell ⟨gA, i, none⟩ (.slice (some ⟨q1, 0, none⟩) (m + 1) (m + 1))).setCell ⟨gE, i, none⟩ (.slice (some ⟨wd.heap.size, 0, none⟩) (m + 1) (m + 1))) (.cells zC 3) gA gE i (q1) (wd.heap.size) (.slice (some ⟨q1, 0, none⟩) (m + 1) (m + 1)) (.slice (some ⟨wd.heap.size, 0, none⟩) (m + 1) (m + 1))) := Lib.hid (by rw [HWz.out, HQ1.out]; exact (two_rows (w := wd) (Z := .cells zC 3) (gA := gA) (gE := gE) (k := i) sA sE hAE).2)
          obtain ⟨f', hN'⟩ := NetW.rows2 (t := zeroN (n + 1) (m + 1)) HBack.out HZC.out HT.out
          have HN2 := Lib.hid hN'
          have HBx2 := Lib.hid ((HT.out.2.2.2.2.2.2.2.2 gx (lt_of_block HBx.out) hgxA hgxE).trans HBx.out)
          have HB2 : Hid (Below T1 w3.drew ((wz.setCell ⟨gA, i, none⟩ (.slice (some ⟨q1, 0, none⟩) (m + 1) (m + 1))).setCell ⟨gE, i, none⟩ (.slice (some ⟨wd.heap.size, 0, none⟩) (m + 1) (m + 1)))) := Lib.hid ((((by rw [HWz.out]; exact ((HB.out.alloc hz _).alloc (by rw [World.size_alloc]; omega) _)) : Below T1 w3.drew wz).setCell (p := ⟨gA, i, none⟩) bA _).setCell (p := ⟨gE, i, none⟩) bE _)
          have hz2 := Nat.le_trans hz HT.out.2.2.2.1
          clear HT hN'
          go_wp2
          go_roundw
          case rel => exact ⟨i + 1, f', by omega, by go_num, HBx2, HN2, HB2, hz2⟩
          case measure => simp [intOf]; omega
      · have HIN : Hid (i = n + 1) := Lib.hid (by omega)
        have HN : Hid (NetW wr T1 f D C A E (n + 1) (m + 1) (n + 1) (n + 1) (n + 1) (zeroN (n + 1) (m + 1))) := Lib.hid (by have := HN.out; rw [HIN.out] at this; exact this)
        have HN := Lib.hid (netA_start (b := b) (x := x) HN.out)
        have HX3 : Hid (∀ W, Below T1 w3.drew W → MatR W (some ad) n m x) := Lib.hid (fun W hb => IntsS.below HX2.out (HB3.out.trans ((Below.refl _ _).drew.trans (hb.mono (by show w3.heap.size ≤ T1; rw [HT1.out]; exact Nat.le_refl _)) |>.mono (by rw [← HZ3.out]; exact Nat.le_refl _))))
        have HCW : Hid (∀ W, Below T1 w3.drew W → W.cell? ⟨w.heap.size, 0, none⟩ = some (.int .i64 b)) := Lib.hid (fun W hb => cellLater HCB.out (HB3.out.trans ((Below.refl _ _).drew.trans (hb.mono (by show w3.heap.size ≤ T1; rw [HT1.out]; exact Nat.le_refl _)) |>.mono (by rw [← HZ3.out]; exact Nat.le_refl _))))
        have HRW : Hid (∀ W, Below T1 w3.drew W → W.heap[w.heap.size + 1]? = some (.cells #[.slice none 0 0, .slice none 0 0, .slice none 0 0, .slice none 0 0] 54 (0, 0))) := Lib.hid (fun W hb => box_below HRB.out (HB3.out.trans ((Below.refl _ _).drew.trans (hb.mono (by show w3.heap.size ≤ T1; rw [HT1.out]; exact Nat.le_refl _)) |>.mono (by rw [← HZ3.out]; exact Nat.le_refl _))))
        clear HZC mkC Wm
        go_wp2_with fail
        clear hlt hi
        go_loopw [66] (fun iv wr => ∃ (i : Nat) (f : Nat → Option Rw), i ≤ n ∧ iv = .int .i64 i ∧ Hid (wr.heap[gx]? = some (.cells #[.slice D (n + 1) (n + 1), .slice C (m + 1) (m + 1), .slice A (n + 1) (n + 1), .slice E (n + 1) (n + 1)] 54 (0, 0))) ∧ Hid (NetW wr T1 f D C A E (n + 1) (m + 1) (n + 1) (n + 1) (n + 1) (tA n m b x i 0)) ∧ Hid (Below T1 w3.drew wr) ∧ T1 ≤ wr.heap.size) (fun iv _ => n - (intOf iv).toNat)
        case atStart => exact ⟨0, f, Nat.zero_le _, rfl, HBx, HN, HB, hz⟩
        case round =>
          clear HBx HN HB hz
          obtain ⟨i, f, hi, rfl, HBx, HN, HB, hz⟩ := hrel
          by_cases hlt : i < n
          · obtain ⟨ad', eA', Vx, cvx, p0, hvx⟩ := matR_row (HX3.out _ (Below.refl _ _)) hlt
            obtain rfl : ad = ad' := Option.some.inj eA'
            obtain ⟨av, rfl, _⟩ := vecR_at hvx (show 0 < m by omega)
            have HVX : Hid (∀ W, Below T1 w3.drew W → VecR W (some av) m (x i)) := Lib.hid (fun W hb => Ints.below hvx (hb.mono (by show w3.heap.size ≤ T1; rw [HT1.out]; exact Nat.le_refl _)))
            have p1 := cellLater p0 (HB.out.mono (by show w3.heap.size ≤ T1; rw [HT1.out]; exact Nat.le_refl _))
            clear p0 hvx eA'
            go_wp2_with fail
            clear p1
            go_loopw [73] (fun iv wr => ∃ (j : Nat) (f : Nat → Option Rw), j ≤ m ∧ iv = .int .i64 j ∧ Hid (wr.heap[gx]? = some (.cells #[.slice D (n + 1) (n + 1), .slice C (m + 1) (m + 1), .slice A (n + 1) (n + 1), .slice E (n + 1) (n + 1)] 54 (0, 0))) ∧ Hid (NetW wr T1 f D C A E (n + 1) (m + 1) (n + 1) (n + 1) (n + 1) (tA n m b x i j)) ∧ Hid (Below T1 w3.drew wr) ∧ T1 ≤ wr.heap.size) (fun iv _ => m - (intOf iv).toNat)
            case atStart => exact ⟨0, f, Nat.zero_le _, rfl, HBx, HN, HB, hz⟩
            case round =>
              clear HBx HN HB hz
              obtain ⟨j, f, hj, rfl, HBx, HN, HB, hz⟩ := hrel
              by_cases hlj : j < m
              · obtain ⟨av', eV, cx⟩ := vecR_at (HVX.out _ HB.out) hlj
                obtain rfl : av = av' := Option.some.inj eV
                obtain ⟨wd, HWd⟩ : ∃ wd, Hid (wd = wr.drew) := ⟨_, Lib.hid rfl⟩
                have bdr := (Below.refl wr.heap.size wr).drew
                have HNd : Hid (NetW wd T1 f D C A E (n + 1) (m + 1) (n + 1) (n + 1) (n + 1) (tA n m b x i j)) := Lib.hid (by rw [HWd.out]; exact HN.out.below bdr)
                have HBd : Hid (wd.heap[gx]? = some (.cells #[.slice D (n + 1) (n + 1), .slice C (m + 1) (m + 1), .slice A (n + 1) (n + 1), .slice E (n + 1) (n + 1)] 54 (0, 0))) := Lib.hid (by rw [HWd.out]; exact HBx.out)
                have HBB : Hid (Below T1 w3.drew wd) := Lib.hid (by rw [HWd.out]; exact HB.out.drew)
                have hzd : T1 ≤ wd.heap.size := by rw [HWd.out]; exact hz
                have cb := HCW.out _ HBB.out
                clear HN HBx HB hz bdr
                have c2 := box_cell HBd.out 2 (.slice A (n + 1) (n + 1)) rfl
                have c3 := box_cell HBd.out 3 (.slice E (n + 1) (n + 1)) rfl
                obtain ⟨vu, hvu⟩ : ∃ vu, vu = upV b (x i j) := ⟨_, rfl⟩
                obtain ⟨vd, hvd⟩ : ∃ vd, vd = dnV b (x i j) := ⟨_, rfl⟩
                have hxv := HM.out.x i j hlt hlj
                have hxv2 : 0 ≤ x i j ∧ x i j ≤ 1000000 := by omega
                obtain ⟨gE0, ge', cve', eE, k1e, _, _, _, _, _, _⟩ := HNd.out.cellHi (Nat.le_refl _) (show i < n + 1 by omega) (show j < m + 1 by omega)
                obtain ⟨gA, gl, cvl, rfl, k1, k2, k3, k4, k5, k6, back⟩ := HNd.out.cellLo (Nat.le_refl _) (show i < n + 1 by omega) (show j < m + 1 by omega)
                have hgAl : gA ≠ gl := k6.2
                obtain ⟨f1, n1, _⟩ := back vd
                have hgxl := k5 gx _ _ HBd.out (by decide)
                obtain ⟨gE, ge, cve, rfl, l1, l2, l3, l4, l5, l6, back2⟩ := n1.cellHi (Nat.le_refl _) (show i < n + 1 by omega) (show j < m + 1 by omega)
                obtain rfl : gE = gE0 := congrArg Addr.block (Option.some.inj eE)
                have hgEl := k6.1 gE rfl
                have l1 : (wd.setCell ⟨gl, j, none⟩ (.int .i64 vd)).cell? ⟨gE, i, none⟩ = some (.slice (some ⟨ge, 0, none⟩) (m + 1) cve) := l1
                have hE1 : wd.cell? ⟨gE, i, none⟩ = some (.slice (some ⟨ge, 0, none⟩) (m + 1) cve) := (World.cell?_of_block (Below.heap_setCell wd ⟨gl, j, none⟩ _ gE hgEl)).symm.trans l1
                obtain ⟨f2, n2, _⟩ := back2 vu
                have HN2 := Lib.hid (netA_step (b := b) (x := x) hlt hlj (by rw [← hvu, ← hvd]; exact n2))
                have hbx1 : (wd.setCell ⟨gl, j, none⟩ (.int .i64 vd)).heap[gx]? = wd.heap[gx]? := Below.heap_setCell wd ⟨gl, j, none⟩ _ gx hgxl
                have hgxe := l5 gx _ _ (hbx1.trans HBd.out) (by decide)
                have HBx2 := Lib.hid ((Below.heap_setCell _ ⟨ge, j, none⟩ (.int .i64 vu) gx hgxe).trans (hbx1.trans HBd.out))
                have HB2 := Lib.hid ((HBB.out.setCell (p := ⟨gl, j, none⟩) k4 (.int .i64 vd)).setCell (p := ⟨ge, j, none⟩) l4 (.int .i64 vu))
                have hz2 : T1 ≤ ((wd.setCell ⟨gl, j, none⟩ (.int .i64 vd)).setCell ⟨ge, j, none⟩ (.int .i64 vu)).heap.size := by simpa using hzd
                have k1 : wd.cell? ⟨gA, i, none⟩ = some (.slice (some ⟨gl, 0, none⟩) (m + 1) cvl) := k1
                have HQD := Lib.hid (fun W (cb : W.cell? ⟨w.heap.size, 0, none⟩ = some (.int .i64 b)) => (by have h := netDown_any (x i j) b w.heap.size W cb hb2 hb100 hxv2.1 hxv2.2; rw [← hvd] at h; exact h : Calls Try.prog 69 #[.int .i64 (x i j), .pointer (some ⟨w.heap.size, 0, none⟩)] W fun e w' => e = .returned (.int .i64 vd) ∧ W = w'))
                have HQU := Lib.hid (fun W (cb : W.cell? ⟨w.heap.size, 0, none⟩ = some (.int .i64 b)) => (by have h := netUp_any (x i j) b w.heap.size W cb hb2 hb100 hxv2.1 hxv2.2; rw [← hvu] at h; exact h : Calls Try.prog 70 #[.int .i64 (x i j), .pointer (some ⟨w.heap.size, 0, none⟩)] W fun e w' => e = .returned (.int .i64 vu) ∧ W = w'))
                clear back back2 n1 n2 eE k1e l1 k4 k5 k6 l4 l5 l6 hbx1 hvu hvd HNd HBd HBB hzd
                generalize x i j = xv at *
                obtain ⟨wd1, HWd1⟩ : ∃ wd1, Hid (wd1 = wd.setCell ⟨gl, j, none⟩ (.int .i64 vd)) := ⟨_, Lib.hid rfl⟩
                rw [← HWd1.out] at l2 l3 HN2 HBx2 HB2 hz2
                go_wp2_with fail
                have hi1 : (i : Int) < (n : Int) + 1 := by omega
                have hj1 : (j : Int) < (m : Int) + 1 := by omega
                have c2' : wd1.cell? ⟨gx, 2, none⟩ = some (.slice (some ⟨gA, 0, none⟩) (n + 1) (n + 1)) := by rw [HWd1.out]; exact (World.cell?_of_block (Below.heap_setCell wd ⟨gl, j, none⟩ _ gx hgxl)).trans c2
                have c3' : wd1.cell? ⟨gx, 3, none⟩ = some (.slice (some ⟨gE, 0, none⟩) (n + 1) (n + 1)) := by rw [HWd1.out]; exact (World.cell?_of_block (Below.heap_setCell wd ⟨gl, j, none⟩ _ gx hgxl)).trans c3
                have k1' : wd1.cell? ⟨gA, i, none⟩ = some (.slice (some ⟨gl, 0, none⟩) (m + 1) cvl) := by rw [HWd1.out]; exact (World.cell?_of_block (Below.heap_setCell wd ⟨gl, j, none⟩ _ gA hgAl)).trans k1
                have hE1' : wd1.cell? ⟨gE, i, none⟩ = some (.slice (some ⟨ge, 0, none⟩) (m + 1) cve) := by rw [HWd1.out]; exact (World.cell?_of_block (Below.heap_setCell wd ⟨gl, j, none⟩ _ gE hgEl)).trans hE1
                refine AnyE.region 21 (fun w' => w'.cell? ⟨gx, 2, none⟩ = some (.slice (some ⟨gA, 0, none⟩) (n + 1) (n + 1)) ∧ w'.cell? ⟨gx, 3, none⟩ = some (.slice (some ⟨gE, 0, none⟩) (n + 1) (n + 1)) ∧ w'.cell? ⟨gA, i, none⟩ = some (.slice (some ⟨gl, 0, none⟩) (m + 1) cvl) ∧ w'.cell? ⟨gE, i, none⟩ = some (.slice (some ⟨ge, 0, none⟩) (m + 1) cve)) (by kernel_rfl) (by rw [← HWd.out]; exact ⟨c2, c3, k1, hE1⟩) (fun hHeld => ?_)
                rw [← HWd.out]
                clear hHeld
                have hHeld := And.intro c2 (And.intro c3 (And.intro k1 hE1))
                refine AnyE.take (i := 0) (d := 78) (v := ?_) rfl (by kernel_rfl) (by kernel_rfl) (by kernel_rfl) (by kernel_rfl) (by kernel_rfl) (fun _ _ _ h => h) (Or.inl ⟨by rfl, ?_⟩) (by assumption) ?_
                rotate_left
                · (intro w hSw; obtain ⟨g1, g2, g3, g4⟩ := hSw; go_simp; try with_reducible rfl)
                simp only [Act.put, List.setIfInBounds_toArray, List.set_cons_zero, List.set_cons_succ]
                refine AnyE.take (i := 1) (d := 79) (v := ?_) rfl (by kernel_rfl) (by kernel_rfl) (by kernel_rfl) (by kernel_rfl) (by kernel_rfl) (fun _ _ _ h => h) (Or.inl ⟨by rfl, ?_⟩) (by assumption) ?_
                rotate_left
                · (intro w hSw; obtain ⟨g1, g2, g3, g4⟩ := hSw; go_simp; try with_reducible rfl)
                simp only [Act.put, List.setIfInBounds_toArray, List.set_cons_zero, List.set_cons_succ]
                refine AnyE.take (i := 2) (d := 80) (v := ?_) rfl (by kernel_rfl) (by kernel_rfl) (by kernel_rfl) (by kernel_rfl) (by kernel_rfl) (fun _ _ _ h => h) (Or.inl ⟨by rfl, ?_⟩) (by assumption) ?_
                rotate_left
                · (intro w hSw; obtain ⟨g1, g2, g3, g4⟩ := hSw; go_simp; try with_reducible rfl)
                simp only [Act.put, List.setIfInBounds_toArray, List.set_cons_zero, List.set_cons_succ]
                refine AnyE.take (i := 3) (d := 81) (v := ?_) rfl (by kernel_rfl) (by kernel_rfl) (by kernel_rfl) (by kernel_rfl) (by kernel_rfl) (fun _ _ _ h => h) (Or.inl ⟨by rfl, ?_⟩) (by assumption) ?_
                rotate_left
                · (intro w hSw; obtain ⟨g1, g2, g3, g4⟩ := hSw; go_simp; try with_reducible rfl)
                simp only [Act.put, List.setIfInBounds_toArray, List.set_cons_zero, List.set_cons_succ]
                refine AnyE.take (i := 4) (d := 82) (v := ?_) rfl (by kernel_rfl) (by kernel_rfl) (by kernel_rfl) (by kernel_rfl) (by kernel_rfl) (fun _ _ _ h => h) (Or.inl ⟨by rfl, ?_⟩) (by assumption) ?_
                rotate_left
                · (intro w hSw; obtain ⟨g1, g2, g3, g4⟩ := hSw; go_simp; try with_reducible rfl)
                simp only [Act.put, List.setIfInBounds_toArray, List.set_cons_zero, List.set_cons_succ]
                refine AnyE.take (i := 5) (d := 83) (v := ?_) rfl (by kernel_rfl) (by kernel_rfl) (by kernel_rfl) (by kernel_rfl) (by kernel_rfl) (fun _ _ _ h => h) (Or.inl ⟨by rfl, ?_⟩) (by assumption) ?_
                rotate_left
                · (intro w hSw; obtain ⟨g1, g2, g3, g4⟩ := hSw; go_simp; try with_reducible rfl)
                simp only [Act.put, List.setIfInBounds_toArray, List.set_cons_zero, List.set_cons_succ]
                refine AnyE.take (i := 6) (d := 84) (v := ?_) rfl (by kernel_rfl) (by kernel_rfl) (by kernel_rfl) (by kernel_rfl) (by kernel_rfl) (fun _ _ _ h => h) (Or.inl ⟨by rfl, ?_⟩) (by assumption) ?_
                rotate_left
                · (intro w hSw; obtain ⟨g1, g2, g3, g4⟩ := hSw; go_simp; try with_reducible rfl)
                simp only [Act.put, List.setIfInBounds_toArray, List.set_cons_zero, List.set_cons_succ]
                refine AnyE.take (i := 7) (d := 85) (v := ?_) rfl (by kernel_rfl) (by kernel_rfl) (by kernel_rfl) (by kernel_rfl) (by kernel_rfl) (fun _ _ _ h => h) (Or.inl ⟨by rfl, ?_⟩) (by assumption) ?_
                rotate_left
                · (intro w hSw; obtain ⟨g1, g2, g3, g4⟩ := hSw; go_simp; try with_reducible rfl)
                simp only [Act.put, List.setIfInBounds_toArray, List.set_cons_zero, List.set_cons_succ]
                refine AnyE.take (i := 8) (d := 86) (v := ?_) rfl (by kernel_rfl) (by kernel_rfl) (by kernel_rfl) (by kernel_rfl) (by kernel_rfl) (fun _ _ _ h => h) (Or.inl ⟨by rfl, ?_⟩) (by assumption) ?_
                rotate_left
                · (intro w hSw; obtain ⟨g1, g2, g3, g4⟩ := hSw; go_simp; try with_reducible rfl)
                simp only [Act.put, List.setIfInBounds_toArray, List.set_cons_zero, List.set_cons_succ]
                refine AnyE.take (i := 9) (d := 87) (v := ?_) rfl (by kernel_rfl) (by kernel_rfl) (by kernel_rfl) (by kernel_rfl) (by kernel_rfl) (fun _ _ _ h => h) (Or.inl ⟨by rfl, ?_⟩) (by assumption) ?_
                rotate_left
                · (intro w hSw; obtain ⟨g1, g2, g3, g4⟩ := hSw; go_simp; try with_reducible rfl)
                simp only [Act.put, List.setIfInBounds_toArray, List.set_cons_zero, List.set_cons_succ]
                refine AnyE.take (i := 10) (d := 88) (v := ?_) rfl (by kernel_rfl) (by kernel_rfl) (by kernel_rfl) (by kernel_rfl) (by kernel_rfl) (fun _ _ _ h => h) (Or.inl ⟨by rfl, ?_⟩) (by assumption) ?_
                rotate_left
                · (intro w hSw; obtain ⟨g1, g2, g3, g4⟩ := hSw; go_simp; try with_reducible rfl)
                simp only [Act.put, List.setIfInBounds_toArray, List.set_cons_zero, List.set_cons_succ]
                refine AnyE.take (i := 11) (d := 89) (v := ?_) rfl (by kernel_rfl) (by kernel_rfl) (by kernel_rfl) (by kernel_rfl) (by kernel_rfl) (fun _ _ _ h => h) (Or.inl ⟨by rfl, ?_⟩) (by assumption) ?_
                rotate_left
                · (intro w hSw; obtain ⟨g1, g2, g3, g4⟩ := hSw; go_simp; try with_reducible rfl)
                simp only [Act.put, List.setIfInBounds_toArray, List.set_cons_zero, List.set_cons_succ]
                refine AnyE.take (i := 12) (d := 90) (v := ?_) rfl (by kernel_rfl) (by kernel_rfl) (by kernel_rfl) (by kernel_rfl) (by kernel_rfl) (fun _ _ _ h => h) (Or.inl ⟨by rfl, ?_⟩) (by assumption) ?_
                rotate_left
                · (intro w hSw; obtain ⟨g1, g2, g3, g4⟩ := hSw; go_simp; try with_reducible rfl)
                simp only [Act.put, List.setIfInBounds_toArray, List.set_cons_zero, List.set_cons_succ]
                refine AnyE.take (i := 13) (d := 91) (v := ?_) rfl (by kernel_rfl) (by kernel_rfl) (by kernel_rfl) (by kernel_rfl) (by kernel_rfl) (fun _ _ _ h => h) (Or.inl ⟨by rfl, ?_⟩) (by assumption) ?_
                rotate_left
                · (intro w hSw; obtain ⟨g1, g2, g3, g4⟩ := hSw; go_simp; try with_reducible rfl)
                simp only [Act.put, List.setIfInBounds_toArray, List.set_cons_zero, List.set_cons_succ]
                refine AnyE.take (i := 15) (d := 93) (v := ?_) rfl (by kernel_rfl) (by kernel_rfl) (by kernel_rfl) (by kernel_rfl) (by kernel_rfl) (fun _ _ _ h => h) (Or.inl ⟨by rfl, ?_⟩) (by assumption) ?_
                rotate_left
                · (intro w hSw; obtain ⟨g1, g2, g3, g4⟩ := hSw; go_simp; try with_reducible rfl)
                simp only [Act.put, List.setIfInBounds_toArray, List.set_cons_zero, List.set_cons_succ]
                refine AnyE.take (i := 16) (d := 94) (v := ?_) rfl (by kernel_rfl) (by kernel_rfl) (by kernel_rfl) (by kernel_rfl) (by kernel_rfl) (fun _ _ _ h => h) (Or.inl ⟨by rfl, ?_⟩) (by assumption) ?_
                rotate_left
                · (intro w hSw; obtain ⟨g1, g2, g3, g4⟩ := hSw; go_simp; try with_reducible rfl)
                simp only [Act.put, List.setIfInBounds_toArray, List.set_cons_zero, List.set_cons_succ]
                refine AnyE.step (i := 14) (by kernel_rfl) (by rfl) rfl (fun K hK => ?_)
                go_simp
                go_at_call 69
                (with_reducible refine (HQD.out _ cb).mono ?_)
                rintro e w6 ⟨rfl, rfl⟩
                go_wp2_with fail
                refine hK.out _ _ ?_ (fun hHeld => ?_)
                · exact ⟨c2, c3, k1, hE1⟩
                clear hK K
                try simp only [Act.put, List.setIfInBounds_toArray, List.set_cons_zero, List.set_cons_succ]
                refine AnyE.step (i := 17) (by kernel_rfl) (by rfl) rfl (fun K hK => ?_)
                go_simp
                go_at_call 70
                (with_reducible refine (HQU.out _ cb).mono ?_)
                rintro e w6 ⟨rfl, rfl⟩
                go_wp2_with fail
                refine hK.out _ _ ?_ (fun hHeld => ?_)
                · exact ⟨c2, c3, k1, hE1⟩
                clear hK K
                try simp only [Act.put, List.setIfInBounds_toArray, List.set_cons_zero, List.set_cons_succ]
                refine AnyE.take (i := 18) (d := 96) (v := ?_) rfl (by kernel_rfl) (by kernel_rfl) (by kernel_rfl) (by kernel_rfl) (by kernel_rfl) (fun _ _ _ h => h) (Or.inl ⟨by rfl, ?_⟩) (by assumption) ?_
                rotate_left
                · (intro w hSw; clear hSw; go_simp; try with_reducible rfl)
                simp only [Act.put, List.setIfInBounds_toArray, List.set_cons_zero, List.set_cons_succ]
                refine AnyE.step (i := 19) (by kernel_rfl) (by rfl) rfl (fun K hK => ?_)
                go_simp
                rw [← HWd1.out]
                refine hK.out _ _ ?_ (fun hHeld => ?_)
                · exact ⟨c2', c3', k1', hE1'⟩
                clear hK K
                try simp only [Act.put, List.setIfInBounds_toArray, List.set_cons_zero, List.set_cons_succ]
                refine AnyE.take (i := 20) (d := 97) (v := ?_) rfl (by kernel_rfl) (by kernel_rfl) (by kernel_rfl) (by kernel_rfl) (by kernel_rfl) (fun _ _ _ h => h) (Or.inl ⟨by rfl, ?_⟩) (by assumption) ?_
                rotate_left
                · (intro w hSw; clear hSw; go_simp; try with_reducible rfl)
                simp only [Act.put, List.setIfInBounds_toArray, List.set_cons_zero, List.set_cons_succ]
                refine AnyE.last (i := 21) (by kernel_rfl) rfl rfl (by kernel_rfl) (fun K hK => ?_)
                go_simp
                refine hK.out _ _ ?_
                clear hK K
                go_wp2
                go_roundw
                case rel => exact ⟨j + 1, _, by omega, by go_num, HBx2, HN2, HB2, hz2⟩
                case measure => simp [intOf]; omega
              · obtain rfl : m = j := by omega
                have HN2 := Lib.hid (netA_row HN.out)
                go_wp2
                go_roundw
                case rel => exact ⟨i + 1, f, by omega, by go_num, HBx, HN2, HB, hz⟩
                case measure => simp [intOf]; omega
          · obtain rfl : n = i := by omega
            have HN2 := Lib.hid (netB_start HN.out)
            obtain ⟨Tv, hTv⟩ : ∃ Tv, wr.heap.size = Tv := ⟨_, rfl⟩
            have HTv := Lib.hid hTv
            have HSep : Hid (∀ i r, f i = some r → r.b < Tv) := Lib.hid (fun i r hi => by rw [← HTv.out]; exact (HN.out.fam.lt hi).2)
            have HXB : Hid (∀ i j, i < n → j < m → 0 ≤ x i j ∧ x i j ≤ 1000000000) := Lib.hid (fun i j hi hj => by have := HM.out.x i j hi hj; omega)
            clear hTv HN
            go_wp2_with fail
            refine (rowSums_any (some ad) n ca m x _ (HX3.out _ HB.out) (by omega) (by omega) HXB.out).mono ?_
            rintro e w5 ⟨A8, c8, rfl, o8, b8⟩
            have HB5 := Lib.hid (HB.out.trans (b8.mono (by have := HB.out.size; omega)))
            go_wp2_with fail
            refine (colSums_any (some ad) n ca m x _ (HX3.out _ HB5.out) (by omega) (by omega) (by omega) HXB.out).mono ?_
            rintro e w6 ⟨A9, c9, rfl, o9, b9⟩
            obtain ⟨a8, rfl, _⟩ := vecR_at o8.ints (show 0 < n by omega)
            obtain ⟨a9, rfl, _⟩ := vecR_at o9.ints (show 0 < m by omega)
            have b89 := b8.trans (b9.mono b8.size)
            have HV8 : Hid (∀ W : World, (∀ z, Tv ≤ z → z < w6.heap.size → W.heap[z]? = w6.heap[z]?) → VecR W (some a8) n (rowS m x)) := Lib.hid (fun W hk => vec_kept (o8.below b9) (by rw [HTv.out]; exact hk))
            have HV9 : Hid (∀ W : World, (∀ z, Tv ≤ z → z < w6.heap.size → W.heap[z]? = w6.heap[z]?) → VecR W (some a9) m (colS n x)) := Lib.hid (fun W hk => vec_kept (OwnI.mono_lo o9 (by rw [← HTv.out]; exact b8.size)) hk)
            have HN := Lib.hid (HN2.out.below b89)
            have HBx2 := Lib.hid (box_below HBx.out b89)
            have HB2 := Lib.hid (HB.out.trans (b89.mono (by have := HB.out.size; omega)))
            have hz2 := Nat.le_trans hz b89.size
            have HK : Hid (∀ z, Tv ≤ z → z < w6.heap.size → w6.heap[z]? = w6.heap[z]?) := Lib.hid (fun _ _ _ => rfl)
            clear HN2 HBx HB hz o8 o9 b8 b9 b89 HB5 HXB HTv
            go_wp2_with fail
            clear hlt
            go_loopw [106] (fun iv wr => ∃ (i : Nat) (f : Nat → Option Rw), i ≤ n ∧ iv = .int .i64 i ∧ Hid (wr.heap[gx]? = some (.cells #[.slice D (n + 1) (n + 1), .slice C (m + 1) (m + 1), .slice A (n + 1) (n + 1), .slice E (n + 1) (n + 1)] 54 (0, 0))) ∧ Hid (NetW wr T1 f D C A E (n + 1) (m + 1) (n + 1) (n + 1) (n + 1) (tB n m b x i)) ∧ Hid (Below T1 w3.drew wr) ∧ T1 ≤ wr.heap.size ∧ Hid (∀ i r, f i = some r → r.b < Tv) ∧ Hid (∀ z, Tv ≤ z → z < w6.heap.size → wr.heap[z]? = w6.heap[z]?)) (fun iv _ => n - (intOf iv).toNat)
            case atStart => exact ⟨0, f, Nat.zero_le _, rfl, HBx2, HN, HB2, hz2, HSep, Lib.hid (fun _ _ _ => rfl)⟩
            case round =>
              clear HBx2 HN HB2 hz2 HSep HK
              obtain ⟨i, f, hi, rfl, HBx, HN, HB, hz, HSep, HK⟩ := hrel
              by_cases hlt : i < n
              · obtain ⟨a8', e8, cv8⟩ := vecR_at (HV8.out _ HK.out) hlt
                obtain rfl : a8 = a8' := Option.some.inj e8
                obtain ⟨rv, hrv⟩ : ∃ rv, rv = rowS m x i := ⟨_, rfl⟩
                rw [← hrv] at cv8
                have hrb := HM.out.sums.1 i hlt
                rw [← hrv] at hrb
                have hrb2 : 0 ≤ rv ∧ rv ≤ 1000000 := by omega
                obtain ⟨vu, hvu⟩ : ∃ vu, vu = upV b rv := ⟨_, rfl⟩
                obtain ⟨vd, hvd⟩ : ∃ vd, vd = dnV b rv := ⟨_, rfl⟩
                have hdn := dnV_bd hb2 hrb.1
                rw [← hvu, ← hvd] at hdn
                have W1 : IntKind.i64.wrap (vu - vd) = vu - vd := IntWalk.i64_in _ ⟨by omega, by omega⟩
                have HQD := Lib.hid (fun W (cb : W.cell? ⟨w.heap.size, 0, none⟩ = some (.int .i64 b)) => (by have h := netDown_any rv b w.heap.size W cb hb2 hb100 hrb2.1 hrb2.2; rw [← hvd] at h; exact h : Calls Try.prog 69 #[.int .i64 rv, .pointer (some ⟨w.heap.size, 0, none⟩)] W fun e w' => e = .returned (.int .i64 vd) ∧ W = w'))
                have HQU := Lib.hid (fun W (cb : W.cell? ⟨w.heap.size, 0, none⟩ = some (.int .i64 b)) => (by have h := netUp_any rv b w.heap.size W cb hb2 hb100 hrb2.1 hrb2.2; rw [← hvu] at h; exact h : Calls Try.prog 70 #[.int .i64 rv, .pointer (some ⟨w.heap.size, 0, none⟩)] W fun e w' => e = .returned (.int .i64 vu) ∧ W = w'))
                have HVU := Lib.hid hvu
                have HVD := Lib.hid hvd
                have HRV := Lib.hid hrv
                clear hvu hvd hrv hdn e8
                have hi1 : (i : Int) < (n : Int) + 1 := by omega
                have hm1' : (m : Int) < (m : Int) + 1 := by omega
                go_wp2_with fail
                clear cv8
                obtain ⟨wd, HWwd⟩ : ∃ wd, Hid (wd = wr.drew) := ⟨_, Lib.hid rfl⟩
                have bdr := (Below.refl wr.heap.size wr).drew
                replace HN : Hid (NetW wd T1 f D C A E (n + 1) (m + 1) (n + 1) (n + 1) (n + 1) (tB n m b x i)) := Lib.hid (by rw [HWwd.out]; exact HN.out.below bdr)
                replace HBx : Hid (wd.heap[gx]? = some (.cells #[.slice D (n + 1) (n + 1), .slice C (m + 1) (m + 1), .slice A (n + 1) (n + 1), .slice E (n + 1) (n + 1)] 54 (0, 0))) := Lib.hid (by rw [HWwd.out]; exact HBx.out)
                replace HB : Hid (Below T1 w3.drew wd) := Lib.hid (by rw [HWwd.out]; exact HB.out.drew)
                replace hz : T1 ≤ wd.heap.size := by rw [HWwd.out]; exact hz
                replace HK : Hid (∀ z, Tv ≤ z → z < w6.heap.size → wd.heap[z]? = w6.heap[z]?) := Lib.hid (by rw [HWwd.out]; exact HK.out)
                have cb := HCW.out _ HB.out
                clear bdr
                obtain ⟨gD, rfl, k2, k3, k4, k5, back⟩ := HN.out.cellR (show i < n + 1 by omega)
                obtain ⟨f1, n1, s1⟩ := back vu
                replace s1 := s1 Tv HSep.out
                clear back
                have c0 := box_cell HBx.out 0 (.slice (some ⟨gD, 0, none⟩) (n + 1) (n + 1)) rfl
                obtain ⟨we, HWwe⟩ : ∃ we, Hid (we = wd.setCell ⟨gD, i, none⟩ (.int .i64 vu)) := ⟨_, Lib.hid rfl⟩
                have hgxg := k5 gx _ _ HBx.out (by decide)
                have HN1 : Hid (NetW we T1 f1 (some ⟨gD, 0, none⟩) C A E (n + 1) (m + 1) (n + 1) (n + 1) (n + 1) ((tB n m b x i).setR i vu)) := Lib.hid (by rw [HWwe.out]; exact n1)
                have HBx1 : Hid (we.heap[gx]? = some (.cells #[.slice (some ⟨gD, 0, none⟩) (n + 1) (n + 1), .slice C (m + 1) (m + 1), .slice A (n + 1) (n + 1), .slice E (n + 1) (n + 1)] 54 (0, 0))) := Lib.hid (by rw [HWwe.out]; exact (Below.heap_setCell _ ⟨gD, i, none⟩ _ gx hgxg).trans HBx.out)
                have HB1 : Hid (Below T1 w3.drew we) := Lib.hid (by rw [HWwe.out]; exact HB.out.setCell (p := ⟨gD, i, none⟩) k4 _)
                have hz1 : T1 ≤ we.heap.size := by rw [HWwe.out]; simpa using hz
                have HK1 : Hid (∀ z, Tv ≤ z → z < w6.heap.size → we.heap[z]? = w6.heap[z]?) := Lib.hid (fun z h1 h2 => by rw [HWwe.out]; exact (Below.heap_setCell _ ⟨gD, i, none⟩ _ z (show z ≠ gD by have := s1.1; omega)).trans (HK.out z h1 h2))
                have HS1 := Lib.hid s1.2
                refine AnyE.region 7 (fun w' => w' = wd) (by kernel_rfl) (by rw [← HWwd.out]) (fun hHeld => ?_)
                rw [← HWwd.out]
                clear hHeld
                have hHeld : wd = wd := rfl
                refine AnyE.take (i := 0) (d := 111) (v := ?_) rfl (by kernel_rfl) (by kernel_rfl) (by kernel_rfl) (by kernel_rfl) (by kernel_rfl) (fun _ _ _ h => h) (Or.inl ⟨by rfl, ?_⟩) (by assumption) ?_
                rotate_left
                · (intro w hSw; rw [hSw]; go_simp; try with_reducible rfl)
                simp only [Act.put, List.setIfInBounds_toArray, List.set_cons_zero, List.set_cons_succ]
                refine AnyE.take (i := 1) (d := 112) (v := ?_) rfl (by kernel_rfl) (by kernel_rfl) (by kernel_rfl) (by kernel_rfl) (by kernel_rfl) (fun _ _ _ h => h) (Or.inl ⟨by rfl, ?_⟩) (by assumption) ?_
                rotate_left
                · (intro w hSw; rw [hSw]; go_simp; try with_reducible rfl)
                simp only [Act.put, List.setIfInBounds_toArray, List.set_cons_zero, List.set_cons_succ]
                refine AnyE.take (i := 2) (d := 113) (v := ?_) rfl (by kernel_rfl) (by kernel_rfl) (by kernel_rfl) (by kernel_rfl) (by kernel_rfl) (fun _ _ _ h => h) (Or.inl ⟨by rfl, ?_⟩) (by assumption) ?_
                rotate_left
                · (intro w hSw; rw [hSw]; go_simp; try with_reducible rfl)
                simp only [Act.put, List.setIfInBounds_toArray, List.set_cons_zero, List.set_cons_succ]
                refine AnyE.take (i := 3) (d := 114) (v := ?_) rfl (by kernel_rfl) (by kernel_rfl) (by kernel_rfl) (by kernel_rfl) (by kernel_rfl) (fun _ _ _ h => h) (Or.inl ⟨by rfl, ?_⟩) (by assumption) ?_
                rotate_left
                · (intro w hSw; rw [hSw]; go_simp; try with_reducible rfl)
                simp only [Act.put, List.setIfInBounds_toArray, List.set_cons_zero, List.set_cons_succ]
                refine AnyE.take (i := 4) (d := 115) (v := ?_) rfl (by kernel_rfl) (by kernel_rfl) (by kernel_rfl) (by kernel_rfl) (by kernel_rfl) (fun _ _ _ h => h) (Or.inl ⟨by rfl, ?_⟩) (by assumption) ?_
                rotate_left
                · (intro w hSw; rw [hSw]; go_simp; try with_reducible rfl)
                simp only [Act.put, List.setIfInBounds_toArray, List.set_cons_zero, List.set_cons_succ]
                refine AnyE.step (i := 5) (by kernel_rfl) (by rfl) rfl (fun K hK => ?_)
                go_simp
                go_at_call 70
                (with_reducible refine (HQU.out _ cb).mono ?_)
                rintro e w6 ⟨rfl, rfl⟩
                go_wp2_with fail
                refine hK.out _ _ ?_ (fun hHeld => ?_)
                · exact rfl
                clear hK K
                try simp only [Act.put, List.setIfInBounds_toArray, List.set_cons_zero, List.set_cons_succ]
                refine AnyE.take (i := 6) (d := 117) (v := ?_) rfl (by kernel_rfl) (by kernel_rfl) (by kernel_rfl) (by kernel_rfl) (by kernel_rfl) (fun _ _ _ h => h) (Or.inl ⟨by rfl, ?_⟩) (by assumption) ?_
                rotate_left
                · (intro w hSw; rw [hSw]; go_simp; try with_reducible rfl)
                simp only [Act.put, List.setIfInBounds_toArray, List.set_cons_zero, List.set_cons_succ]
                refine AnyE.last (i := 7) (by kernel_rfl) rfl rfl (by kernel_rfl) (fun K hK => ?_)
                go_simp
                refine hK.out _ _ ?_
                clear hK K
                rw [← HWwe.out]
                clear c0 cb hHeld
                clear HN HBx HB hz HK HSep
                have HN := HN1
                have HBx := HBx1
                have HB := HB1
                have hz := hz1
                have HK := HK1
                have HSep := HS1
                clear HN1 HBx1 HB1 hz1 HK1 HS1 n1 s1 k2 k3 k4 k5
                go_wp2_with fail
                obtain ⟨wf, HWwf⟩ : ∃ wf, Hid (wf = we.drew) := ⟨_, Lib.hid rfl⟩
                have bdr := (Below.refl we.heap.size we).drew
                replace HN : Hid (NetW wf T1 f1 (some ⟨gD, 0, none⟩) C A E (n + 1) (m + 1) (n + 1) (n + 1) (n + 1) ((tB n m b x i).setR i vu)) := Lib.hid (by rw [HWwf.out]; exact HN.out.below bdr)
                replace HBx : Hid (wf.heap[gx]? = some (.cells #[.slice (some ⟨gD, 0, none⟩) (n + 1) (n + 1), .slice C (m + 1) (m + 1), .slice A (n + 1) (n + 1), .slice E (n + 1) (n + 1)] 54 (0, 0))) := Lib.hid (by rw [HWwf.out]; exact HBx.out)
                replace HB : Hid (Below T1 w3.drew wf) := Lib.hid (by rw [HWwf.out]; exact HB.out.drew)
                replace hz : T1 ≤ wf.heap.size := by rw [HWwf.out]; exact hz
                replace HK : Hid (∀ z, Tv ≤ z → z < w6.heap.size → wf.heap[z]? = w6.heap[z]?) := Lib.hid (by rw [HWwf.out]; exact HK.out)
                have cb := HCW.out _ HB.out
                clear bdr
                obtain ⟨gE, ge, cve, rfl, k1, k2, k3, k4, k5, _, back⟩ := HN.out.cellHi (Nat.le_refl _) (show i < n + 1 by omega) (show m < m + 1 by omega)
                replace k1 : wf.cell? ⟨gE, i, none⟩ = some (.slice (some ⟨ge, 0, none⟩) (m + 1) cve) := k1
                obtain ⟨f2, n1, s1⟩ := back (vu - vd)
                replace s1 := s1 Tv HSep.out
                clear back
                have c3 := box_cell HBx.out 3 (.slice (some ⟨gE, 0, none⟩) (n + 1) (n + 1)) rfl
                have HN2 := Lib.hid (netB_step (b := b) (x := x) hlt (by rw [← HRV.out, ← HVU.out, ← HVD.out]; exact n1))
                have hgxg := k5 gx _ _ HBx.out (by decide)
                have HBx2 := Lib.hid ((Below.heap_setCell _ ⟨ge, m, none⟩ (.int .i64 (vu - vd)) gx hgxg).trans HBx.out)
                have HB2 := Lib.hid (HB.out.setCell (p := ⟨ge, m, none⟩) k4 (.int .i64 (vu - vd)))
                have hz2 : T1 ≤ (wf.setCell ⟨ge, m, none⟩ (.int .i64 (vu - vd))).heap.size := by simpa using hz
                have HK2 : Hid (∀ z, Tv ≤ z → z < w6.heap.size → (wf.setCell ⟨ge, m, none⟩ (.int .i64 (vu - vd))).heap[z]? = w6.heap[z]?) := Lib.hid (fun z h1 h2 => (Below.heap_setCell _ ⟨ge, m, none⟩ _ z (show z ≠ ge by have := s1.1; omega)).trans (HK.out z h1 h2))
                have HS2 := Lib.hid s1.2
                clear n1 s1 k4 k5 HN HBx HB hz HK HSep
                refine AnyE.region 14 (fun w' => w' = wf) (by kernel_rfl) (by rw [← HWwf.out]) (fun hHeld => ?_)
                rw [← HWwf.out]
                clear hHeld
                have hHeld : wf = wf := rfl
                refine AnyE.take (i := 0) (d := 118) (v := ?_) rfl (by kernel_rfl) (by kernel_rfl) (by kernel_rfl) (by kernel_rfl) (by kernel_rfl) (fun _ _ _ h => h) (Or.inl ⟨by rfl, ?_⟩) (by assumption) ?_
                rotate_left
                · (intro w hSw; rw [hSw]; go_simp; try with_reducible rfl)
                simp only [Act.put, List.setIfInBounds_toArray, List.set_cons_zero, List.set_cons_succ]
                refine AnyE.take (i := 1) (d := 119) (v := ?_) rfl (by kernel_rfl) (by kernel_rfl) (by kernel_rfl) (by kernel_rfl) (by kernel_rfl) (fun _ _ _ h => h) (Or.inl ⟨by rfl, ?_⟩) (by assumption) ?_
                rotate_left
                · (intro w hSw; rw [hSw]; go_simp; try with_reducible rfl)
                simp only [Act.put, List.setIfInBounds_toArray, List.set_cons_zero, List.set_cons_succ]
                refine AnyE.take (i := 2) (d := 120) (v := ?_) rfl (by kernel_rfl) (by kernel_rfl) (by kernel_rfl) (by kernel_rfl) (by kernel_rfl) (fun _ _ _ h => h) (Or.inl ⟨by rfl, ?_⟩) (by assumption) ?_
                rotate_left
                · (intro w hSw; rw [hSw]; go_simp; try with_reducible rfl)
                simp only [Act.put, List.setIfInBounds_toArray, List.set_cons_zero, List.set_cons_succ]
                refine AnyE.take (i := 3) (d := 121) (v := ?_) rfl (by kernel_rfl) (by kernel_rfl) (by kernel_rfl) (by kernel_rfl) (by kernel_rfl) (fun _ _ _ h => h) (Or.inl ⟨by rfl, ?_⟩) (by assumption) ?_
                rotate_left
                · (intro w hSw; rw [hSw]; go_simp; try with_reducible rfl)
                simp only [Act.put, List.setIfInBounds_toArray, List.set_cons_zero, List.set_cons_succ]
                refine AnyE.take (i := 4) (d := 122) (v := ?_) rfl (by kernel_rfl) (by kernel_rfl) (by kernel_rfl) (by kernel_rfl) (by kernel_rfl) (fun _ _ _ h => h) (Or.inl ⟨by rfl, ?_⟩) (by assumption) ?_
                rotate_left
                · (intro w hSw; rw [hSw]; go_simp; try with_reducible rfl)
                simp only [Act.put, List.setIfInBounds_toArray, List.set_cons_zero, List.set_cons_succ]
                refine AnyE.take (i := 5) (d := 123) (v := ?_) rfl (by kernel_rfl) (by kernel_rfl) (by kernel_rfl) (by kernel_rfl) (by kernel_rfl) (fun _ _ _ h => h) (Or.inl ⟨by rfl, ?_⟩) (by assumption) ?_
                rotate_left
                · (intro w hSw; rw [hSw]; go_simp; try with_reducible rfl)
                simp only [Act.put, List.setIfInBounds_toArray, List.set_cons_zero, List.set_cons_succ]
                refine AnyE.take (i := 6) (d := 124) (v := ?_) rfl (by kernel_rfl) (by kernel_rfl) (by kernel_rfl) (by kernel_rfl) (by kernel_rfl) (fun _ _ _ h => h) (Or.inl ⟨by rfl, ?_⟩) (by assumption) ?_
                rotate_left
                · (intro w hSw; rw [hSw]; go_simp; try with_reducible rfl)
                simp only [Act.put, List.setIfInBounds_toArray, List.set_cons_zero, List.set_cons_succ]
                refine AnyE.take (i := 7) (d := 125) (v := ?_) rfl (by kernel_rfl) (by kernel_rfl) (by kernel_rfl) (by kernel_rfl) (by kernel_rfl) (fun _ _ _ h => h) (Or.inl ⟨by rfl, ?_⟩) (by assumption) ?_
                rotate_left
                · (intro w hSw; rw [hSw]; go_simp; try with_reducible rfl)
                simp only [Act.put, List.setIfInBounds_toArray, List.set_cons_zero, List.set_cons_succ]
                refine AnyE.take (i := 9) (d := 127) (v := ?_) rfl (by kernel_rfl) (by kernel_rfl) (by kernel_rfl) (by kernel_rfl) (by kernel_rfl) (fun _ _ _ h => h) (Or.inl ⟨by rfl, ?_⟩) (by assumption) ?_
                rotate_left
                · (intro w hSw; rw [hSw]; go_simp; try with_reducible rfl)
                simp only [Act.put, List.setIfInBounds_toArray, List.set_cons_zero, List.set_cons_succ]
                refine AnyE.take (i := 10) (d := 128) (v := ?_) rfl (by kernel_rfl) (by kernel_rfl) (by kernel_rfl) (by kernel_rfl) (by kernel_rfl) (fun _ _ _ h => h) (Or.inl ⟨by rfl, ?_⟩) (by assumption) ?_
                rotate_left
                · (intro w hSw; rw [hSw]; go_simp; try with_reducible rfl)
                simp only [Act.put, List.setIfInBounds_toArray, List.set_cons_zero, List.set_cons_succ]
                refine AnyE.step (i := 8) (by kernel_rfl) (by rfl) rfl (fun K hK => ?_)
                go_simp
                go_at_call 70
                (with_reducible refine (HQU.out _ cb).mono ?_)
                rintro e w6 ⟨rfl, rfl⟩
                go_wp2_with fail
                refine hK.out _ _ ?_ (fun hHeld => ?_)
                · exact rfl
                clear hK K
                try simp only [Act.put, List.setIfInBounds_toArray, List.set_cons_zero, List.set_cons_succ]
                refine AnyE.step (i := 11) (by kernel_rfl) (by rfl) rfl (fun K hK => ?_)
                go_simp
                go_at_call 69
                (with_reducible refine (HQD.out _ cb).mono ?_)
                rintro e w6 ⟨rfl, rfl⟩
                go_wp2_with fail
                refine hK.out _ _ ?_ (fun hHeld => ?_)
                · exact rfl
                clear hK K
                try simp only [Act.put, List.setIfInBounds_toArray, List.set_cons_zero, List.set_cons_succ]
                refine AnyE.take (i := 12) (d := 130) (v := ?_) rfl (by kernel_rfl) (by kernel_rfl) (by kernel_rfl) (by kernel_rfl) (by kernel_rfl) (fun _ _ _ h => h) (Or.inl ⟨by rfl, ?_⟩) (by assumption) ?_
                rotate_left
                · (intro w hSw; rw [hSw]; go_simp; try with_reducible rfl)
                simp only [Act.put, List.setIfInBounds_toArray, List.set_cons_zero, List.set_cons_succ]
                refine AnyE.take (i := 13) (d := 131) (v := ?_) rfl (by kernel_rfl) (by kernel_rfl) (by kernel_rfl) (by kernel_rfl) (by kernel_rfl) (fun _ _ _ h => h) (Or.inl ⟨by rfl, ?_⟩) (by assumption) ?_
                rotate_left
                · (intro w hSw; rw [hSw]; go_simp; try with_reducible rfl)
                simp only [Act.put, List.setIfInBounds_toArray, List.set_cons_zero, List.set_cons_succ]
                refine AnyE.last (i := 14) (by kernel_rfl) rfl rfl (by kernel_rfl) (fun K hK => ?_)
                go_simp
                refine hK.out _ _ ?_
                clear hK K
                go_wp2
                go_roundw
                case rel => exact ⟨i + 1, _, by omega, by go_num, HBx2, HN2, HB2, hz2, HS2, HK2⟩
                case measure => simp [intOf]; omega
              · obtain rfl : n = i := by omega
                have HN2 := Lib.hid (netC_start HN.out)
                clear HN
                go_wp2_with fail
                clear hlt
                go_loopw [135] (fun iv wr => ∃ (j : Nat) (f : Nat → Option Rw), j ≤ m ∧ iv = .int .i64 j ∧ Hid (wr.heap[gx]? = some (.cells #[.slice D (n + 1) (n + 1), .slice C (m + 1) (m + 1), .slice A (n + 1) (n + 1), .slice E (n + 1) (n + 1)] 54 (0, 0))) ∧ Hid (NetW wr T1 f D C A E (n + 1) (m + 1) (n + 1) (n + 1) (n + 1) (tC n m b x j)) ∧ Hid (Below T1 w3.drew wr) ∧ T1 ≤ wr.heap.size ∧ Hid (∀ i r, f i = some r → r.b < Tv) ∧ Hid (∀ z, Tv ≤ z → z < w6.heap.size → wr.heap[z]? = w6.heap[z]?)) (fun iv _ => m - (intOf iv).toNat)
                case atStart => exact ⟨0, f, Nat.zero_le _, rfl, HBx, HN2, HB, hz, HSep, HK⟩
                case round =>
                  clear HBx HN2 HB hz HSep HK
                  obtain ⟨j, f, hj, rfl, HBx, HN, HB, hz, HSep, HK⟩ := hrel
                  by_cases hlt : j < m
                  · obtain ⟨a9', e9, cv9⟩ := vecR_at (HV9.out _ HK.out) hlt
                    obtain rfl : a9 = a9' := Option.some.inj e9
                    obtain ⟨rv, hrv⟩ : ∃ rv, rv = colS n x j := ⟨_, rfl⟩
                    rw [← hrv] at cv9
                    have hrb := HM.out.sums.2.1 j hlt
                    rw [← hrv] at hrb
                    have hrb2 : 0 ≤ rv ∧ rv ≤ 1000000 := by omega
                    obtain ⟨vu, hvu⟩ : ∃ vu, vu = upV b rv := ⟨_, rfl⟩
                    obtain ⟨vd, hvd⟩ : ∃ vd, vd = dnV b rv := ⟨_, rfl⟩
                    have hdn := dnV_bd hb2 hrb.1
                    rw [← hvu, ← hvd] at hdn
                    have W1 : IntKind.i64.wrap (vu - vd) = vu - vd := IntWalk.i64_in _ ⟨by omega, by omega⟩
                    have HQD := Lib.hid (fun W (cb : W.cell? ⟨w.heap.size, 0, none⟩ = some (.int .i64 b)) => (by have h := netDown_any rv b w.heap.size W cb hb2 hb100 hrb2.1 hrb2.2; rw [← hvd] at h; exact h : Calls Try.prog 69 #[.int .i64 rv, .pointer (some ⟨w.heap.size, 0, none⟩)] W fun e w' => e = .returned (.int .i64 vd) ∧ W = w'))
                    have HQU := Lib.hid (fun W (cb : W.cell? ⟨w.heap.size, 0, none⟩ = some (.int .i64 b)) => (by have h := netUp_any rv b w.heap.size W cb hb2 hb100 hrb2.1 hrb2.2; rw [← hvu] at h; exact h : Calls Try.prog 70 #[.int .i64 rv, .pointer (some ⟨w.heap.size, 0, none⟩)] W fun e w' => e = .returned (.int .i64 vu) ∧ W = w'))
                    have HVU := Lib.hid hvu
                    have HVD := Lib.hid hvd
                    have HRV := Lib.hid hrv
                    clear hvu hvd hrv hdn e9
                    have hj1 : (j : Int) < (m : Int) + 1 := by omega
                    have hn1' : (n : Int) < (n : Int) + 1 := by omega
                    go_wp2_with fail
                    clear cv9
                    obtain ⟨wd, HWwd⟩ : ∃ wd, Hid (wd = wr.drew) := ⟨_, Lib.hid rfl⟩
                    have bdr := (Below.refl wr.heap.size wr).drew
                    replace HN : Hid (NetW wd T1 f D C A E (n + 1) (m + 1) (n + 1) (n + 1) (n + 1) (tC n m b x j)) := Lib.hid (by rw [HWwd.out]; exact HN.out.below bdr)
                    replace HBx : Hid (wd.heap[gx]? = some (.cells #[.slice D (n + 1) (n + 1), .slice C (m + 1) (m + 1), .slice A (n + 1) (n + 1), .slice E (n + 1) (n + 1)] 54 (0, 0))) := Lib.hid (by rw [HWwd.out]; exact HBx.out)
                    replace HB : Hid (Below T1 w3.drew wd) := Lib.hid (by rw [HWwd.out]; exact HB.out.drew)
                    replace hz : T1 ≤ wd.heap.size := by rw [HWwd.out]; exact hz
                    replace HK : Hid (∀ z, Tv ≤ z → z < w6.heap.size → wd.heap[z]? = w6.heap[z]?) := Lib.hid (by rw [HWwd.out]; exact HK.out)
                    have cb := HCW.out _ HB.out
                    clear bdr
                    obtain ⟨gC, rfl, k2, k3, k4, k5, back⟩ := HN.out.cellC (show j < m + 1 by omega)
                    obtain ⟨f1, n1, s1⟩ := back vu
                    replace s1 := s1 Tv HSep.out
                    clear back
                    have c1 := box_cell HBx.out 1 (.slice (some ⟨gC, 0, none⟩) (m + 1) (m + 1)) rfl
                    obtain ⟨we, HWwe⟩ : ∃ we, Hid (we = wd.setCell ⟨gC, j, none⟩ (.int .i64 vu)) := ⟨_, Lib.hid rfl⟩
                    have hgxg := k5 gx _ _ HBx.out (by decide)
                    have HN1 : Hid (NetW we T1 f1 D (some ⟨gC, 0, none⟩) A E (n + 1) (m + 1) (n + 1) (n + 1) (n + 1) ((tC n m b x j).setC j vu)) := Lib.hid (by rw [HWwe.out]; exact n1)
                    have HBx1 : Hid (we.heap[gx]? = some (.cells #[.slice D (n + 1) (n + 1), .slice (some ⟨gC, 0, none⟩) (m + 1) (m + 1), .slice A (n + 1) (n + 1), .slice E (n + 1) (n + 1)] 54 (0, 0))) := Lib.hid (by rw [HWwe.out]; exact (Below.heap_setCell _ ⟨gC, j, none⟩ _ gx hgxg).trans HBx.out)
                    have HB1 : Hid (Below T1 w3.drew we) := Lib.hid (by rw [HWwe.out]; exact HB.out.setCell (p := ⟨gC, j, none⟩) k4 _)
                    have hz1 : T1 ≤ we.heap.size := by rw [HWwe.out]; simpa using hz
                    have HK1 : Hid (∀ z, Tv ≤ z → z < w6.heap.size → we.heap[z]? = w6.heap[z]?) := Lib.hid (fun z h1 h2 => by rw [HWwe.out]; exact (Below.heap_setCell _ ⟨gC, j, none⟩ _ z (show z ≠ gC by have := s1.1; omega)).trans (HK.out z h1 h2))
                    have HS1 := Lib.hid s1.2
                    refine AnyE.region 7 (fun w' => w' = wd) (by kernel_rfl) (by rw [← HWwd.out]) (fun hHeld => ?_)
                    rw [← HWwd.out]
                    clear hHeld
                    have hHeld : wd = wd := rfl
                    refine AnyE.take (i := 0) (d := 140) (v := ?_) rfl (by kernel_rfl) (by kernel_rfl) (by kernel_rfl) (by kernel_rfl) (by kernel_rfl) (fun _ _ _ h => h) (Or.inl ⟨by rfl, ?_⟩) (by assumption) ?_
                    rotate_left
                    · (intro w hSw; rw [hSw]; go_simp; try with_reducible rfl)
                    simp only [Act.put, List.setIfInBounds_toArray, List.set_cons_zero, List.set_cons_succ]
                    refine AnyE.take (i := 1) (d := 141) (v := ?_) rfl (by kernel_rfl) (by kernel_rfl) (by kernel_rfl) (by kernel_rfl) (by kernel_rfl) (fun _ _ _ h => h) (Or.inl ⟨by rfl, ?_⟩) (by assumption) ?_
                    rotate_left
                    · (intro w hSw; rw [hSw]; go_simp; try with_reducible rfl)
                    simp only [Act.put, List.setIfInBounds_toArray, List.set_cons_zero, List.set_cons_succ]
                    refine AnyE.take (i := 2) (d := 142) (v := ?_) rfl (by kernel_rfl) (by kernel_rfl) (by kernel_rfl) (by kernel_rfl) (by kernel_rfl) (fun _ _ _ h => h) (Or.inl ⟨by rfl, ?_⟩) (by assumption) ?_
                    rotate_left
                    · (intro w hSw; rw [hSw]; go_simp; try with_reducible rfl)
                    simp only [Act.put, List.setIfInBounds_toArray, List.set_cons_zero, List.set_cons_succ]
                    refine AnyE.take (i := 3) (d := 143) (v := ?_) rfl (by kernel_rfl) (by kernel_rfl) (by kernel_rfl) (by kernel_rfl) (by kernel_rfl) (fun _ _ _ h => h) (Or.inl ⟨by rfl, ?_⟩) (by assumption) ?_
                    rotate_left
                    · (intro w hSw; rw [hSw]; go_simp; try with_reducible rfl)
                    simp only [Act.put, List.setIfInBounds_toArray, List.set_cons_zero, List.set_cons_succ]
                    refine AnyE.take (i := 4) (d := 144) (v := ?_) rfl (by kernel_rfl) (by kernel_rfl) (by kernel_rfl) (by kernel_rfl) (by kernel_rfl) (fun _ _ _ h => h) (Or.inl ⟨by rfl, ?_⟩) (by assumption) ?_
                    rotate_left
                    · (intro w hSw; rw [hSw]; go_simp; try with_reducible rfl)
                    simp only [Act.put, List.setIfInBounds_toArray, List.set_cons_zero, List.set_cons_succ]
                    refine AnyE.step (i := 5) (by kernel_rfl) (by rfl) rfl (fun K hK => ?_)
                    go_simp
                    go_at_call 70
                    (with_reducible refine (HQU.out _ cb).mono ?_)
                    rintro e w6 ⟨rfl, rfl⟩
                    go_wp2_with fail
                    refine hK.out _ _ ?_ (fun hHeld => ?_)
                    · exact rfl
                    clear hK K
                    try simp only [Act.put, List.setIfInBounds_toArray, List.set_cons_zero, List.set_cons_succ]
                    refine AnyE.take (i := 6) (d := 146) (v := ?_) rfl (by kernel_rfl) (by kernel_rfl) (by kernel_rfl) (by kernel_rfl) (by kernel_rfl) (fun _ _ _ h => h) (Or.inl ⟨by rfl, ?_⟩) (by assumption) ?_
                    rotate_left
                    · (intro w hSw; rw [hSw]; go_simp; try with_reducible rfl)
                    simp only [Act.put, List.setIfInBounds_toArray, List.set_cons_zero, List.set_cons_succ]
                    refine AnyE.last (i := 7) (by kernel_rfl) rfl rfl (by kernel_rfl) (fun K hK => ?_)
                    go_simp
                    refine hK.out _ _ ?_
                    clear hK K
                    rw [← HWwe.out]
                    clear c1 cb hHeld
                    clear HN HBx HB hz HK HSep
                    have HN := HN1
                    have HBx := HBx1
                    have HB := HB1
                    have hz := hz1
                    have HK := HK1
                    have HSep := HS1
                    clear HN1 HBx1 HB1 hz1 HK1 HS1 n1 s1 k2 k3 k4 k5
                    go_wp2_with fail
                    obtain ⟨wf, HWwf⟩ : ∃ wf, Hid (wf = we.drew) := ⟨_, Lib.hid rfl⟩
                    have bdr := (Below.refl we.heap.size we).drew
                    replace HN : Hid (NetW wf T1 f1 D (some ⟨gC, 0, none⟩) A E (n + 1) (m + 1) (n + 1) (n + 1) (n + 1) ((tC n m b x j).setC j vu)) := Lib.hid (by rw [HWwf.out]; exact HN.out.below bdr)
                    replace HBx : Hid (wf.heap[gx]? = some (.cells #[.slice D (n + 1) (n + 1), .slice (some ⟨gC, 0, none⟩) (m + 1) (m + 1), .slice A (n + 1) (n + 1), .slice E (n + 1) (n + 1)] 54 (0, 0))) := Lib.hid (by rw [HWwf.out]; exact HBx.out)
                    replace HB : Hid (Below T1 w3.drew wf) := Lib.hid (by rw [HWwf.out]; exact HB.out.drew)
                    replace hz : T1 ≤ wf.heap.size := by rw [HWwf.out]; exact hz
                    replace HK : Hid (∀ z, Tv ≤ z → z < w6.heap.size → wf.heap[z]? = w6.heap[z]?) := Lib.hid (by rw [HWwf.out]; exact HK.out)
                    have cb := HCW.out _ HB.out
                    clear bdr
                    obtain ⟨gE, ge, cve, rfl, k1, k2, k3, k4, k5, _, back⟩ := HN.out.cellHi (Nat.le_refl _) (show n < n + 1 by omega) (show j < m + 1 by omega)
                    replace k1 : wf.cell? ⟨gE, n, none⟩ = some (.slice (some ⟨ge, 0, none⟩) (m + 1) cve) := k1
                    obtain ⟨f2, n1, s1⟩ := back (vu - vd)
                    replace s1 := s1 Tv HSep.out
                    clear back
                    have c3 := box_cell HBx.out 3 (.slice (some ⟨gE, 0, none⟩) (n + 1) (n + 1)) rfl
                    have HN2 := Lib.hid (netC_step (b := b) (x := x) hlt (by rw [← HRV.out, ← HVU.out, ← HVD.out]; exact n1))
                    have hgxg := k5 gx _ _ HBx.out (by decide)
                    have HBx2 := Lib.hid ((Below.heap_setCell _ ⟨ge, j, none⟩ (.int .i64 (vu - vd)) gx hgxg).trans HBx.out)
                    have HB2 := Lib.hid (HB.out.setCell (p := ⟨ge, j, none⟩) k4 (.int .i64 (vu - vd)))
                    have hz2 : T1 ≤ (wf.setCell ⟨ge, j, none⟩ (.int .i64 (vu - vd))).heap.size := by simpa using hz
                    have HK2 : Hid (∀ z, Tv ≤ z → z < w6.heap.size → (wf.setCell ⟨ge, j, none⟩ (.int .i64 (vu - vd))).heap[z]? = w6.heap[z]?) := Lib.hid (fun z h1 h2 => (Below.heap_setCell _ ⟨ge, j, none⟩ _ z (show z ≠ ge by have := s1.1; omega)).trans (HK.out z h1 h2))
                    have HS2 := Lib.hid s1.2
                    clear n1 s1 k4 k5 HN HBx HB hz HK HSep
                    refine AnyE.region 14 (fun w' => w' = wf) (by kernel_rfl) (by rw [← HWwf.out]) (fun hHeld => ?_)
                    rw [← HWwf.out]
                    clear hHeld
                    have hHeld : wf = wf := rfl
                    refine AnyE.take (i := 0) (d := 147) (v := ?_) rfl (by kernel_rfl) (by kernel_rfl) (by kernel_rfl) (by kernel_rfl) (by kernel_rfl) (fun _ _ _ h => h) (Or.inl ⟨by rfl, ?_⟩) (by assumption) ?_
                    rotate_left
                    · (intro w hSw; rw [hSw]; go_simp; try with_reducible rfl)
                    simp only [Act.put, List.setIfInBounds_toArray, List.set_cons_zero, List.set_cons_succ]
                    refine AnyE.take (i := 1) (d := 148) (v := ?_) rfl (by kernel_rfl) (by kernel_rfl) (by kernel_rfl) (by kernel_rfl) (by kernel_rfl) (fun _ _ _ h => h) (Or.inl ⟨by rfl, ?_⟩) (by assumption) ?_
                    rotate_left
                    · (intro w hSw; rw [hSw]; go_simp; try with_reducible rfl)
                    simp only [Act.put, List.setIfInBounds_toArray, List.set_cons_zero, List.set_cons_succ]
                    refine AnyE.take (i := 2) (d := 149) (v := ?_) rfl (by kernel_rfl) (by kernel_rfl) (by kernel_rfl) (by kernel_rfl) (by kernel_rfl) (fun _ _ _ h => h) (Or.inl ⟨by rfl, ?_⟩) (by assumption) ?_
                    rotate_left
                    · (intro w hSw; rw [hSw]; go_simp; try with_reducible rfl)
                    simp only [Act.put, List.setIfInBounds_toArray, List.set_cons_zero, List.set_cons_succ]
                    refine AnyE.take (i := 3) (d := 150) (v := ?_) rfl (by kernel_rfl) (by kernel_rfl) (by kernel_rfl) (by kernel_rfl) (by kernel_rfl) (fun _ _ _ h => h) (Or.inl ⟨by rfl, ?_⟩) (by assumption) ?_
                    rotate_left
                    · (intro w hSw; rw [hSw]; go_simp; try with_reducible rfl)
                    simp only [Act.put, List.setIfInBounds_toArray, List.set_cons_zero, List.set_cons_succ]
                    refine AnyE.take (i := 4) (d := 151) (v := ?_) rfl (by kernel_rfl) (by kernel_rfl) (by kernel_rfl) (by kernel_rfl) (by kernel_rfl) (fun _ _ _ h => h) (Or.inl ⟨by rfl, ?_⟩) (by assumption) ?_
                    rotate_left
                    · (intro w hSw; rw [hSw]; go_simp; try with_reducible rfl)
                    simp only [Act.put, List.setIfInBounds_toArray, List.set_cons_zero, List.set_cons_succ]
                    refine AnyE.take (i := 5) (d := 152) (v := ?_) rfl (by kernel_rfl) (by kernel_rfl) (by kernel_rfl) (by kernel_rfl) (by kernel_rfl) (fun _ _ _ h => h) (Or.inl ⟨by rfl, ?_⟩) (by assumption) ?_
                    rotate_left
                    · (intro w hSw; rw [hSw]; go_simp; try with_reducible rfl)
                    simp only [Act.put, List.setIfInBounds_toArray, List.set_cons_zero, List.set_cons_succ]
                    refine AnyE.take (i := 6) (d := 153) (v := ?_) rfl (by kernel_rfl) (by kernel_rfl) (by kernel_rfl) (by kernel_rfl) (by kernel_rfl) (fun _ _ _ h => h) (Or.inl ⟨by rfl, ?_⟩) (by assumption) ?_
                    rotate_left
                    · (intro w hSw; rw [hSw]; go_simp; try with_reducible rfl)
                    simp only [Act.put, List.setIfInBounds_toArray, List.set_cons_zero, List.set_cons_succ]
                    refine AnyE.take (i := 7) (d := 154) (v := ?_) rfl (by kernel_rfl) (by kernel_rfl) (by kernel_rfl) (by kernel_rfl) (by kernel_rfl) (fun _ _ _ h => h) (Or.inl ⟨by rfl, ?_⟩) (by assumption) ?_
                    rotate_left
                    · (intro w hSw; rw [hSw]; go_simp; try with_reducible rfl)
                    simp only [Act.put, List.setIfInBounds_toArray, List.set_cons_zero, List.set_cons_succ]
                    refine AnyE.take (i := 9) (d := 156) (v := ?_) rfl (by kernel_rfl) (by kernel_rfl) (by kernel_rfl) (by kernel_rfl) (by kernel_rfl) (fun _ _ _ h => h) (Or.inl ⟨by rfl, ?_⟩) (by assumption) ?_
                    rotate_left
                    · (intro w hSw; rw [hSw]; go_simp; try with_reducible rfl)
                    simp only [Act.put, List.setIfInBounds_toArray, List.set_cons_zero, List.set_cons_succ]
                    refine AnyE.take (i := 10) (d := 157) (v := ?_) rfl (by kernel_rfl) (by kernel_rfl) (by kernel_rfl) (by kernel_rfl) (by kernel_rfl) (fun _ _ _ h => h) (Or.inl ⟨by rfl, ?_⟩) (by assumption) ?_
                    rotate_left
                    · (intro w hSw; rw [hSw]; go_simp; try with_reducible rfl)
                    simp only [Act.put, List.setIfInBounds_toArray, List.set_cons_zero, List.set_cons_succ]
                    refine AnyE.step (i := 8) (by kernel_rfl) (by rfl) rfl (fun K hK => ?_)
                    go_simp
                    go_at_call 70
                    (with_reducible refine (HQU.out _ cb).mono ?_)
                    rintro e w6 ⟨rfl, rfl⟩
                    go_wp2_with fail
                    refine hK.out _ _ ?_ (fun hHeld => ?_)
                    · exact rfl
                    clear hK K
                    try simp only [Act.put, List.setIfInBounds_toArray, List.set_cons_zero, List.set_cons_succ]
                    refine AnyE.step (i := 11) (by kernel_rfl) (by rfl) rfl (fun K hK => ?_)
                    go_simp
                    go_at_call 69
                    (with_reducible refine (HQD.out _ cb).mono ?_)
                    rintro e w6 ⟨rfl, rfl⟩
                    go_wp2_with fail
                    refine hK.out _ _ ?_ (fun hHeld => ?_)
                    · exact rfl
                    clear hK K
                    try simp only [Act.put, List.setIfInBounds_toArray, List.set_cons_zero, List.set_cons_succ]
                    refine AnyE.take (i := 12) (d := 159) (v := ?_) rfl (by kernel_rfl) (by kernel_rfl) (by kernel_rfl) (by kernel_rfl) (by kernel_rfl) (fun _ _ _ h => h) (Or.inl ⟨by rfl, ?_⟩) (by assumption) ?_
                    rotate_left
                    · (intro w hSw; rw [hSw]; go_simp; try with_reducible rfl)
                    simp only [Act.put, List.setIfInBounds_toArray, List.set_cons_zero, List.set_cons_succ]
                    refine AnyE.take (i := 13) (d := 160) (v := ?_) rfl (by kernel_rfl) (by kernel_rfl) (by kernel_rfl) (by kernel_rfl) (by kernel_rfl) (fun _ _ _ h => h) (Or.inl ⟨by rfl, ?_⟩) (by assumption) ?_
                    rotate_left
                    · (intro w hSw; rw [hSw]; go_simp; try with_reducible rfl)
                    simp only [Act.put, List.setIfInBounds_toArray, List.set_cons_zero, List.set_cons_succ]
                    refine AnyE.last (i := 14) (by kernel_rfl) rfl rfl (by kernel_rfl) (fun K hK => ?_)
                    go_simp
                    refine hK.out _ _ ?_
                    clear hK K
                    go_wp2
                    go_roundw
                    case rel => exact ⟨j + 1, _, by omega, by go_num, HBx2, HN2, HB2, hz2, HS2, HK2⟩
                    case measure => simp [intOf]; omega
                  · obtain rfl : m = j := by omega
                    obtain ⟨tv, htv⟩ : ∃ tv, tv = totS n m x := ⟨_, rfl⟩
                    have htb := HM.out.sums.2.2
                    rw [← htv] at htb
                    have htb2 : 0 ≤ tv ∧ tv ≤ 1000000 := by omega
                    obtain ⟨vu, hvu⟩ : ∃ vu, vu = upV b tv := ⟨_, rfl⟩
                    obtain ⟨vd, hvd⟩ : ∃ vd, vd = dnV b tv := ⟨_, rfl⟩
                    have hdn := dnV_bd hb2 htb.1
                    rw [← hvu, ← hvd] at hdn
                    have W1 : IntKind.i64.wrap (vu - vd) = vu - vd := IntWalk.i64_in _ ⟨by omega, by omega⟩
                    have hvb : 0 ≤ vd ∧ vd ≤ 490000 := by omega
                    have HQD := Lib.hid (fun W (cb : W.cell? ⟨w.heap.size, 0, none⟩ = some (.int .i64 b)) => (by have h := netDown_any tv b w.heap.size W cb hb2 hb100 htb2.1 htb2.2; rw [← hvd] at h; exact h : Calls Try.prog 69 #[.int .i64 tv, .pointer (some ⟨w.heap.size, 0, none⟩)] W fun e w' => e = .returned (.int .i64 vd) ∧ W = w'))
                    have HQU := Lib.hid (fun W (cb : W.cell? ⟨w.heap.size, 0, none⟩ = some (.int .i64 b)) => (by have h := netUp_any tv b w.heap.size W cb hb2 hb100 htb2.1 htb2.2; rw [← hvu] at h; exact h : Calls Try.prog 70 #[.int .i64 tv, .pointer (some ⟨w.heap.size, 0, none⟩)] W fun e w' => e = .returned (.int .i64 vu) ∧ W = w'))
                    have HVU := Lib.hid hvu
                    have HVD := Lib.hid hvd
                    have HTV := Lib.hid htv
                    clear hvu hvd hdn
                    have hn1' : (n : Int) < (n : Int) + 1 := by omega
                    have hm1' : (m : Int) < (m : Int) + 1 := by omega
                    have hn2' : (n : Int) ≤ (n : Int) + 1 := by omega
                    have HQT := Lib.hid (by have h := total_any (some a8) n c8 (rowS m x) wr (HV8.out _ HK.out) (by omega) (fun k hk => by have := HM.out.sums.1 k hk; omega); exact h : Calls Try.prog 73 #[.slice (some a8) n c8] wr fun e w' => e = .returned (.int .i64 (sm n (rowS m x))) ∧ wr = w')
                    have hts : sm n (rowS m x) = tv := htv.symm
                    clear htv
                    go_wp2_with fail
                    refine HQT.out.mono ?_
                    rintro e w7 ⟨rfl, rfl⟩
                    rw [hts]
                    clear hts
                    go_wp2_with fail
                    obtain ⟨wd, HWwd⟩ : ∃ wd, Hid (wd = wr.drew) := ⟨_, Lib.hid rfl⟩
                    have bdr := (Below.refl wr.heap.size wr).drew
                    replace HN : Hid (NetW wd T1 f D C A E (n + 1) (m + 1) (n + 1) (n + 1) (n + 1) (tC n m b x m)) := Lib.hid (by rw [HWwd.out]; exact HN.out.below bdr)
                    replace HBx : Hid (wd.heap[gx]? = some (.cells #[.slice D (n + 1) (n + 1), .slice C (m + 1) (m + 1), .slice A (n + 1) (n + 1), .slice E (n + 1) (n + 1)] 54 (0, 0))) := Lib.hid (by rw [HWwd.out]; exact HBx.out)
                    replace HB : Hid (Below T1 w3.drew wd) := Lib.hid (by rw [HWwd.out]; exact HB.out.drew)
                    replace hz : T1 ≤ wd.heap.size := by rw [HWwd.out]; exact hz
                    replace HK : Hid (∀ z, Tv ≤ z → z < w6.heap.size → wd.heap[z]? = w6.heap[z]?) := Lib.hid (by rw [HWwd.out]; exact HK.out)
                    have cb := HCW.out _ HB.out
                    clear bdr
                    obtain ⟨gE, ge, cve, rfl, k1, k2, k3, k4, k5, _, back⟩ := HN.out.cellHi (Nat.le_refl _) (show n < n + 1 by omega) (show m < m + 1 by omega)
                    replace k1 : wd.cell? ⟨gE, n, none⟩ = some (.slice (some ⟨ge, 0, none⟩) (m + 1) cve) := k1
                    obtain ⟨f1, n1, s1⟩ := back (vu - vd)
                    replace s1 := s1 Tv HSep.out
                    clear back
                    have c3 := box_cell HBx.out 3 (.slice (some ⟨gE, 0, none⟩) (n + 1) (n + 1)) rfl
                    obtain ⟨we, HWwe⟩ : ∃ we, Hid (we = wd.setCell ⟨ge, m, none⟩ (.int .i64 (vu - vd))) := ⟨_, Lib.hid rfl⟩
                    have hgxg := k5 gx _ _ HBx.out (by decide)
                    have HN1 : Hid (NetW we T1 f1 D C A (some ⟨gE, 0, none⟩) (n + 1) (m + 1) (n + 1) (n + 1) (n + 1) ((tC n m b x m).setHi n m (vu - vd))) := Lib.hid (by rw [HWwe.out]; exact n1)
                    have HBx1 : Hid (we.heap[gx]? = some (.cells #[.slice D (n + 1) (n + 1), .slice C (m + 1) (m + 1), .slice A (n + 1) (n + 1), .slice (some ⟨gE, 0, none⟩) (n + 1) (n + 1)] 54 (0, 0))) := Lib.hid (by rw [HWwe.out]; exact (Below.heap_setCell _ ⟨ge, m, none⟩ _ gx hgxg).trans HBx.out)
                    have HB1 : Hid (Below T1 w3.drew we) := Lib.hid (by rw [HWwe.out]; exact HB.out.setCell (p := ⟨ge, m, none⟩) k4 _)
                    have hz1 : T1 ≤ we.heap.size := by rw [HWwe.out]; simpa using hz
                    have HK1 : Hid (∀ z, Tv ≤ z → z < w6.heap.size → we.heap[z]? = w6.heap[z]?) := Lib.hid (fun z h1 h2 => by rw [HWwe.out]; exact (Below.heap_setCell _ ⟨ge, m, none⟩ _ z (show z ≠ ge by have := s1.1; omega)).trans (HK.out z h1 h2))
                    have HS1 := Lib.hid s1.2
                    refine AnyE.region 14 (fun w' => w' = wd) (by kernel_rfl) (by rw [← HWwd.out]) (fun hHeld => ?_)
                    rw [← HWwd.out]
                    clear hHeld
                    have hHeld : wd = wd := rfl
                    refine AnyE.take (i := 0) (d := 164) (v := ?_) rfl (by kernel_rfl) (by kernel_rfl) (by kernel_rfl) (by kernel_rfl) (by kernel_rfl) (fun _ _ _ h => h) (Or.inl ⟨by rfl, ?_⟩) (by assumption) ?_
                    rotate_left
                    · (intro w hSw; rw [hSw]; go_simp; try with_reducible rfl)
                    simp only [Act.put, List.setIfInBounds_toArray, List.set_cons_zero, List.set_cons_succ]
                    refine AnyE.take (i := 1) (d := 165) (v := ?_) rfl (by kernel_rfl) (by kernel_rfl) (by kernel_rfl) (by kernel_rfl) (by kernel_rfl) (fun _ _ _ h => h) (Or.inl ⟨by rfl, ?_⟩) (by assumption) ?_
                    rotate_left
                    · (intro w hSw; rw [hSw]; go_simp; try with_reducible rfl)
                    simp only [Act.put, List.setIfInBounds_toArray, List.set_cons_zero, List.set_cons_succ]
                    refine AnyE.take (i := 2) (d := 166) (v := ?_) rfl (by kernel_rfl) (by kernel_rfl) (by kernel_rfl) (by kernel_rfl) (by kernel_rfl) (fun _ _ _ h => h) (Or.inl ⟨by rfl, ?_⟩) (by assumption) ?_
                    rotate_left
                    · (intro w hSw; rw [hSw]; go_simp; try with_reducible rfl)
                    simp only [Act.put, List.setIfInBounds_toArray, List.set_cons_zero, List.set_cons_succ]
                    refine AnyE.take (i := 3) (d := 167) (v := ?_) rfl (by kernel_rfl) (by kernel_rfl) (by kernel_rfl) (by kernel_rfl) (by kernel_rfl) (fun _ _ _ h => h) (Or.inl ⟨by rfl, ?_⟩) (by assumption) ?_
                    rotate_left
                    · (intro w hSw; rw [hSw]; go_simp; try with_reducible rfl)
                    simp only [Act.put, List.setIfInBounds_toArray, List.set_cons_zero, List.set_cons_succ]
                    refine AnyE.take (i := 4) (d := 168) (v := ?_) rfl (by kernel_rfl) (by kernel_rfl) (by kernel_rfl) (by kernel_rfl) (by kernel_rfl) (fun _ _ _ h => h) (Or.inl ⟨by rfl, ?_⟩) (by assumption) ?_
                    rotate_left
                    · (intro w hSw; rw [hSw]; go_simp; try with_reducible rfl)
                    simp only [Act.put, List.setIfInBounds_toArray, List.set_cons_zero, List.set_cons_succ]
                    refine AnyE.take (i := 5) (d := 169) (v := ?_) rfl (by kernel_rfl) (by kernel_rfl) (by kernel_rfl) (by kernel_rfl) (by kernel_rfl) (fun _ _ _ h => h) (Or.inl ⟨by rfl, ?_⟩) (by assumption) ?_
                    rotate_left
                    · (intro w hSw; rw [hSw]; go_simp; try with_reducible rfl)
                    simp only [Act.put, List.setIfInBounds_toArray, List.set_cons_zero, List.set_cons_succ]
                    refine AnyE.take (i := 6) (d := 170) (v := ?_) rfl (by kernel_rfl) (by kernel_rfl) (by kernel_rfl) (by kernel_rfl) (by kernel_rfl) (fun _ _ _ h => h) (Or.inl ⟨by rfl, ?_⟩) (by assumption) ?_
                    rotate_left
                    · (intro w hSw; rw [hSw]; go_simp; try with_reducible rfl)
                    simp only [Act.put, List.setIfInBounds_toArray, List.set_cons_zero, List.set_cons_succ]
                    refine AnyE.take (i := 7) (d := 171) (v := ?_) rfl (by kernel_rfl) (by kernel_rfl) (by kernel_rfl) (by kernel_rfl) (by kernel_rfl) (fun _ _ _ h => h) (Or.inl ⟨by rfl, ?_⟩) (by assumption) ?_
                    rotate_left
                    · (intro w hSw; rw [hSw]; go_simp; try with_reducible rfl)
                    simp only [Act.put, List.setIfInBounds_toArray, List.set_cons_zero, List.set_cons_succ]
                    refine AnyE.take (i := 9) (d := 173) (v := ?_) rfl (by kernel_rfl) (by kernel_rfl) (by kernel_rfl) (by kernel_rfl) (by kernel_rfl) (fun _ _ _ h => h) (Or.inl ⟨by rfl, ?_⟩) (by assumption) ?_
                    rotate_left
                    · (intro w hSw; rw [hSw]; go_simp; try with_reducible rfl)
                    simp only [Act.put, List.setIfInBounds_toArray, List.set_cons_zero, List.set_cons_succ]
                    refine AnyE.take (i := 10) (d := 174) (v := ?_) rfl (by kernel_rfl) (by kernel_rfl) (by kernel_rfl) (by kernel_rfl) (by kernel_rfl) (fun _ _ _ h => h) (Or.inl ⟨by rfl, ?_⟩) (by assumption) ?_
                    rotate_left
                    · (intro w hSw; rw [hSw]; go_simp; try with_reducible rfl)
                    simp only [Act.put, List.setIfInBounds_toArray, List.set_cons_zero, List.set_cons_succ]
                    refine AnyE.step (i := 8) (by kernel_rfl) (by rfl) rfl (fun K hK => ?_)
                    go_simp
                    go_at_call 70
                    (with_reducible refine (HQU.out _ cb).mono ?_)
                    rintro e w6 ⟨rfl, rfl⟩
                    go_wp2_with fail
                    refine hK.out _ _ ?_ (fun hHeld => ?_)
                    · exact rfl
                    clear hK K
                    try simp only [Act.put, List.setIfInBounds_toArray, List.set_cons_zero, List.set_cons_succ]
                    refine AnyE.step (i := 11) (by kernel_rfl) (by rfl) rfl (fun K hK => ?_)
                    go_simp
                    go_at_call 69
                    (with_reducible refine (HQD.out _ cb).mono ?_)
                    rintro e w6 ⟨rfl, rfl⟩
                    go_wp2_with fail
                    refine hK.out _ _ ?_ (fun hHeld => ?_)
                    · exact rfl
                    clear hK K
                    try simp only [Act.put, List.setIfInBounds_toArray, List.set_cons_zero, List.set_cons_succ]
                    refine AnyE.take (i := 12) (d := 176) (v := ?_) rfl (by kernel_rfl) (by kernel_rfl) (by kernel_rfl) (by kernel_rfl) (by kernel_rfl) (fun _ _ _ h => h) (Or.inl ⟨by rfl, ?_⟩) (by assumption) ?_
                    rotate_left
                    · (intro w hSw; rw [hSw]; go_simp; try with_reducible rfl)
                    simp only [Act.put, List.setIfInBounds_toArray, List.set_cons_zero, List.set_cons_succ]
                    refine AnyE.take (i := 13) (d := 177) (v := ?_) rfl (by kernel_rfl) (by kernel_rfl) (by kernel_rfl) (by kernel_rfl) (by kernel_rfl) (fun _ _ _ h => h) (Or.inl ⟨by rfl, ?_⟩) (by assumption) ?_
                    rotate_left
                    · (intro w hSw; rw [hSw]; go_simp; try with_reducible rfl)
                    simp only [Act.put, List.setIfInBounds_toArray, List.set_cons_zero, List.set_cons_succ]
                    refine AnyE.last (i := 14) (by kernel_rfl) rfl rfl (by kernel_rfl) (fun K hK => ?_)
                    go_simp
                    refine hK.out _ _ ?_
                    clear hK K
                    rw [← HWwe.out]
                    clear c3 cb hHeld k1
                    clear HN HBx HB hz HK HSep
                    have HN := HN1
                    have HBx := HBx1
                    have HB := HB1
                    have hz := hz1
                    have HK := HK1
                    have HSep := HS1
                    clear HN1 HBx1 HB1 hz1 HK1 HS1 n1 s1 k2 k3 k4 k5
                    go_wp2_with fail
                    obtain ⟨wf, HWwf⟩ : ∃ wf, Hid (wf = we.drew) := ⟨_, Lib.hid rfl⟩
                    have bdr := (Below.refl we.heap.size we).drew
                    replace HN : Hid (NetW wf T1 f1 D C A (some ⟨gE, 0, none⟩) (n + 1) (m + 1) (n + 1) (n + 1) (n + 1) ((tC n m b x m).setHi n m (vu - vd))) := Lib.hid (by rw [HWwf.out]; exact HN.out.below bdr)
                    replace HBx : Hid (wf.heap[gx]? = some (.cells #[.slice D (n + 1) (n + 1), .slice C (m + 1) (m + 1), .slice A (n + 1) (n + 1), .slice (some ⟨gE, 0, none⟩) (n + 1) (n + 1)] 54 (0, 0))) := Lib.hid (by rw [HWwf.out]; exact HBx.out)
                    replace HB : Hid (Below T1 w3.drew wf) := Lib.hid (by rw [HWwf.out]; exact HB.out.drew)
                    replace hz : T1 ≤ wf.heap.size := by rw [HWwf.out]; exact hz
                    replace HK : Hid (∀ z, Tv ≤ z → z < w6.heap.size → wf.heap[z]? = w6.heap[z]?) := Lib.hid (by rw [HWwf.out]; exact HK.out)
                    have cb := HCW.out _ HB.out
                    clear bdr
                    have HQT := Lib.hid (by have h := total_any C (m + 1) (m + 1) (tC n m b x m).C wf (by have h := (HN.out.c.own HN.out.fam).ints; rw [lst_len] at h; exact h) (by omega) (fun k hk => sumC_bd HM.out k); rw [sumC] at h; exact h : Calls Try.prog 73 #[.slice C (m + 1) (m + 1)] wf fun e w' => e = .returned (.int .i64 (sm m (fun j => upV b (colS n x j)))) ∧ wf = w')
                    obtain ⟨sc, hsc⟩ : ∃ sc, sc = sm m (fun j => upV b (colS n x j)) := ⟨_, rfl⟩
                    rw [← hsc] at HQT
                    have hscb := sumC_b HM.out
                    rw [← hsc] at hscb
                    have HSC := Lib.hid hsc
                    clear hsc
                    have W2 : IntKind.i64.wrap (sc - vd) = sc - vd := IntWalk.i64_in _ ⟨by omega, by omega⟩
                    have c1 := box_cell HBx.out 1 (.slice C (m + 1) (m + 1)) rfl
                    obtain ⟨gD, rfl, k2, k3, k4, k5, back⟩ := HN.out.cellR (show n < n + 1 by omega)
                    obtain ⟨f2, n1, s1⟩ := back (sc - vd)
                    replace s1 := s1 Tv HSep.out
                    clear back
                    have c0 := box_cell HBx.out 0 (.slice (some ⟨gD, 0, none⟩) (n + 1) (n + 1)) rfl
                    obtain ⟨wg, HWwg⟩ : ∃ wg, Hid (wg = wf.setCell ⟨gD, n, none⟩ (.int .i64 (sc - vd))) := ⟨_, Lib.hid rfl⟩
                    have hgxg := k5 gx _ _ HBx.out (by decide)
                    have HN1 : Hid (NetW wg T1 f2 (some ⟨gD, 0, none⟩) C A (some ⟨gE, 0, none⟩) (n + 1) (m + 1) (n + 1) (n + 1) (n + 1) (((tC n m b x m).setHi n m (vu - vd)).setR n (sc - vd))) := Lib.hid (by rw [HWwg.out]; exact n1)
                    have HBx1 : Hid (wg.heap[gx]? = some (.cells #[.slice (some ⟨gD, 0, none⟩) (n + 1) (n + 1), .slice C (m + 1) (m + 1), .slice A (n + 1) (n + 1), .slice (some ⟨gE, 0, none⟩) (n + 1) (n + 1)] 54 (0, 0))) := Lib.hid (by rw [HWwg.out]; exact (Below.heap_setCell _ ⟨gD, n, none⟩ _ gx hgxg).trans HBx.out)
                    have HB1 : Hid (Below T1 w3.drew wg) := Lib.hid (by rw [HWwg.out]; exact HB.out.setCell (p := ⟨gD, n, none⟩) k4 _)
                    have hz1 : T1 ≤ wg.heap.size := by rw [HWwg.out]; simpa using hz
                    have HK1 : Hid (∀ z, Tv ≤ z → z < w6.heap.size → wg.heap[z]? = w6.heap[z]?) := Lib.hid (fun z h1 h2 => by rw [HWwg.out]; exact (Below.heap_setCell _ ⟨gD, n, none⟩ _ z (show z ≠ gD by have := s1.1; omega)).trans (HK.out z h1 h2))
                    have HS1 := Lib.hid s1.2
                    refine AnyE.region 11 (fun w' => w' = wf) (by kernel_rfl) (by rw [← HWwf.out]) (fun hHeld => ?_)
                    rw [← HWwf.out]
                    clear hHeld
                    have hHeld : wf = wf := rfl
                    refine AnyE.take (i := 0) (d := 178) (v := ?_) rfl (by kernel_rfl) (by kernel_rfl) (by kernel_rfl) (by kernel_rfl) (by kernel_rfl) (fun _ _ _ h => h) (Or.inl ⟨by rfl, ?_⟩) (by assumption) ?_
                    rotate_left
                    · (intro w hSw; rw [hSw]; go_simp; try with_reducible rfl)
                    simp only [Act.put, List.setIfInBounds_toArray, List.set_cons_zero, List.set_cons_succ]
                    refine AnyE.take (i := 1) (d := 179) (v := ?_) rfl (by kernel_rfl) (by kernel_rfl) (by kernel_rfl) (by kernel_rfl) (by kernel_rfl) (fun _ _ _ h => h) (Or.inl ⟨by rfl, ?_⟩) (by assumption) ?_
                    rotate_left
                    · (intro w hSw; rw [hSw]; go_simp; try with_reducible rfl)
                    simp only [Act.put, List.setIfInBounds_toArray, List.set_cons_zero, List.set_cons_succ]
                    refine AnyE.take (i := 2) (d := 180) (v := ?_) rfl (by kernel_rfl) (by kernel_rfl) (by kernel_rfl) (by kernel_rfl) (by kernel_rfl) (fun _ _ _ h => h) (Or.inl ⟨by rfl, ?_⟩) (by assumption) ?_
                    rotate_left
                    · (intro w hSw; rw [hSw]; go_simp; try with_reducible rfl)
                    simp only [Act.put, List.setIfInBounds_toArray, List.set_cons_zero, List.set_cons_succ]
                    refine AnyE.take (i := 3) (d := 181) (v := ?_) rfl (by kernel_rfl) (by kernel_rfl) (by kernel_rfl) (by kernel_rfl) (by kernel_rfl) (fun _ _ _ h => h) (Or.inl ⟨by rfl, ?_⟩) (by assumption) ?_
                    rotate_left
                    · (intro w hSw; rw [hSw]; go_simp; try with_reducible rfl)
                    simp only [Act.put, List.setIfInBounds_toArray, List.set_cons_zero, List.set_cons_succ]
                    refine AnyE.take (i := 4) (d := 182) (v := ?_) rfl (by kernel_rfl) (by kernel_rfl) (by kernel_rfl) (by kernel_rfl) (by kernel_rfl) (fun _ _ _ h => h) (Or.inl ⟨by rfl, ?_⟩) (by assumption) ?_
                    rotate_left
                    · (intro w hSw; rw [hSw]; go_simp; try with_reducible rfl)
                    simp only [Act.put, List.setIfInBounds_toArray, List.set_cons_zero, List.set_cons_succ]
                    refine AnyE.take (i := 6) (d := 184) (v := ?_) rfl (by kernel_rfl) (by kernel_rfl) (by kernel_rfl) (by kernel_rfl) (by kernel_rfl) (fun _ _ _ h => h) (Or.inl ⟨by rfl, ?_⟩) (by assumption) ?_
                    rotate_left
                    · (intro w hSw; rw [hSw]; go_simp; try with_reducible rfl)
                    simp only [Act.put, List.setIfInBounds_toArray, List.set_cons_zero, List.set_cons_succ]
                    refine AnyE.take (i := 7) (d := 185) (v := ?_) rfl (by kernel_rfl) (by kernel_rfl) (by kernel_rfl) (by kernel_rfl) (by kernel_rfl) (fun _ _ _ h => h) (Or.inl ⟨by rfl, ?_⟩) (by assumption) ?_
                    rotate_left
                    · (intro w hSw; rw [hSw]; go_simp; try with_reducible rfl)
                    simp only [Act.put, List.setIfInBounds_toArray, List.set_cons_zero, List.set_cons_succ]
                    refine AnyE.step (i := 5) (by kernel_rfl) (by rfl) rfl (fun K hK => ?_)
                    go_simp
                    go_at_call 73
                    (with_reducible refine (HQT.out ).mono ?_)
                    rintro e w6 ⟨rfl, rfl⟩
                    go_wp2_with fail
                    refine hK.out _ _ ?_ (fun hHeld => ?_)
                    · exact rfl
                    clear hK K
                    try simp only [Act.put, List.setIfInBounds_toArray, List.set_cons_zero, List.set_cons_succ]
                    refine AnyE.step (i := 8) (by kernel_rfl) (by rfl) rfl (fun K hK => ?_)
                    go_simp
                    go_at_call 69
                    (with_reducible refine (HQD.out _ cb).mono ?_)
                    rintro e w6 ⟨rfl, rfl⟩
                    go_wp2_with fail
                    refine hK.out _ _ ?_ (fun hHeld => ?_)
                    · exact rfl
                    clear hK K
                    try simp only [Act.put, List.setIfInBounds_toArray, List.set_cons_zero, List.set_cons_succ]
                    refine AnyE.take (i := 9) (d := 187) (v := ?_) rfl (by kernel_rfl) (by kernel_rfl) (by kernel_rfl) (by kernel_rfl) (by kernel_rfl) (fun _ _ _ h => h) (Or.inl ⟨by rfl, ?_⟩) (by assumption) ?_
                    rotate_left
                    · (intro w hSw; rw [hSw]; go_simp; try with_reducible rfl)
                    simp only [Act.put, List.setIfInBounds_toArray, List.set_cons_zero, List.set_cons_succ]
                    refine AnyE.take (i := 10) (d := 188) (v := ?_) rfl (by kernel_rfl) (by kernel_rfl) (by kernel_rfl) (by kernel_rfl) (by kernel_rfl) (fun _ _ _ h => h) (Or.inl ⟨by rfl, ?_⟩) (by assumption) ?_
                    rotate_left
                    · (intro w hSw; rw [hSw]; go_simp; try with_reducible rfl)
                    simp only [Act.put, List.setIfInBounds_toArray, List.set_cons_zero, List.set_cons_succ]
                    refine AnyE.last (i := 11) (by kernel_rfl) rfl rfl (by kernel_rfl) (fun K hK => ?_)
                    go_simp
                    refine hK.out _ _ ?_
                    clear hK K
                    rw [← HWwg.out]
                    clear c0 c1 cb hHeld
                    clear HN HBx HB hz HK HSep
                    have HN := HN1
                    have HBx := HBx1
                    have HB := HB1
                    have hz := hz1
                    have HK := HK1
                    have HSep := HS1
                    clear HN1 HBx1 HB1 hz1 HK1 HS1 n1 s1 k2 k3 k4 k5
                    go_wp2_with fail
                    obtain ⟨wh, HWwh⟩ : ∃ wh, Hid (wh = wg.drew) := ⟨_, Lib.hid rfl⟩
                    have bdr := (Below.refl wg.heap.size wg).drew
                    replace HN : Hid (NetW wh T1 f2 (some ⟨gD, 0, none⟩) C A (some ⟨gE, 0, none⟩) (n + 1) (m + 1) (n + 1) (n + 1) (n + 1) (((tC n m b x m).setHi n m (vu - vd)).setR n (sc - vd))) := Lib.hid (by rw [HWwh.out]; exact HN.out.below bdr)
                    replace HBx : Hid (wh.heap[gx]? = some (.cells #[.slice (some ⟨gD, 0, none⟩) (n + 1) (n + 1), .slice C (m + 1) (m + 1), .slice A (n + 1) (n + 1), .slice (some ⟨gE, 0, none⟩) (n + 1) (n + 1)] 54 (0, 0))) := Lib.hid (by rw [HWwh.out]; exact HBx.out)
                    replace HB : Hid (Below T1 w3.drew wh) := Lib.hid (by rw [HWwh.out]; exact HB.out.drew)
                    replace hz : T1 ≤ wh.heap.size := by rw [HWwh.out]; exact hz
                    replace HK : Hid (∀ z, Tv ≤ z → z < w6.heap.size → wh.heap[z]? = w6.heap[z]?) := Lib.hid (by rw [HWwh.out]; exact HK.out)
                    have cb := HCW.out _ HB.out
                    clear bdr
                    have HQT2 := Lib.hid (by have h := total_any (some ⟨gD, 0, none⟩) n (n + 1) (fun u => if u < n then upV b (rowS m x u) else 0) wh (by have h := (HN.out.d.own HN.out.fam).ints; rw [lst_len] at h; exact ints_less h fun u hu => by show (if u < n then _ else _) = (if u = n then _ else (if u < n then upV b (rowS m x u) else 0)); rw [if_neg (show ¬ u = n by omega)]) (by omega) (fun k hk => sumR_bd HM.out k); rw [sumR] at h; exact h : Calls Try.prog 73 #[.slice (some ⟨gD, 0, none⟩) n (n + 1)] wh fun e w' => e = .returned (.int .i64 (sm n (fun i => upV b (rowS m x i)))) ∧ wh = w')
                    obtain ⟨sr, hsr⟩ : ∃ sr, sr = sm n (fun i => upV b (rowS m x i)) := ⟨_, rfl⟩
                    rw [← hsr] at HQT2
                    have hsrb := sumR_b HM.out
                    rw [← hsr] at hsrb
                    have HSR := Lib.hid hsr
                    clear hsr
                    have W3 : IntKind.i64.wrap (sr - vd) = sr - vd := IntWalk.i64_in _ ⟨by omega, by omega⟩
                    have c0 := box_cell HBx.out 0 (.slice (some ⟨gD, 0, none⟩) (n + 1) (n + 1)) rfl
                    obtain ⟨gC, rfl, k2, k3, k4, k5, back⟩ := HN.out.cellC (show m < m + 1 by omega)
                    obtain ⟨f3, n1, s1⟩ := back (sr - vd)
                    replace s1 := s1 Tv HSep.out
                    clear back
                    have c1 := box_cell HBx.out 1 (.slice (some ⟨gC, 0, none⟩) (m + 1) (m + 1)) rfl
                    have HNF := Lib.hid (netZ (b := b) (x := x) (by rw [← HTV.out, ← HVU.out, ← HVD.out, ← HSC.out, ← HSR.out]; exact n1))
                    obtain ⟨wi, HWwi⟩ : ∃ wi, Hid (wi = wh.setCell ⟨gC, m, none⟩ (.int .i64 (sr - vd))) := ⟨_, Lib.hid rfl⟩
                    have hgxg := k5 gx _ _ HBx.out (by decide)
                    rw [← HWwi.out] at HNF
                    have HBxF : Hid (wi.heap[gx]? = some (.cells #[.slice (some ⟨gD, 0, none⟩) (n + 1) (n + 1), .slice (some ⟨gC, 0, none⟩) (m + 1) (m + 1), .slice A (n + 1) (n + 1), .slice (some ⟨gE, 0, none⟩) (n + 1) (n + 1)] 54 (0, 0))) := Lib.hid (by rw [HWwi.out]; exact (Below.heap_setCell _ ⟨gC, m, none⟩ _ gx hgxg).trans HBx.out)
                    have HBF : Hid (Below T1 w3.drew wi) := Lib.hid (by rw [HWwi.out]; exact HB.out.setCell (p := ⟨gC, m, none⟩) k4 _)
                    clear HN HB hz HK HSep k4 k5 s1 n1
                    refine AnyE.region 13 (fun w' => w' = wh) (by kernel_rfl) (by rw [← HWwh.out]) (fun hHeld => ?_)
                    rw [← HWwh.out]
                    clear hHeld
                    have hHeld : wh = wh := rfl
                    refine AnyE.take (i := 0) (d := 189) (v := ?_) rfl (by kernel_rfl) (by kernel_rfl) (by kernel_rfl) (by kernel_rfl) (by kernel_rfl) (fun _ _ _ h => h) (Or.inl ⟨by rfl, ?_⟩) (by assumption) ?_
                    rotate_left
                    · (intro w hSw; rw [hSw]; go_simp; try with_reducible rfl)
                    simp only [Act.put, List.setIfInBounds_toArray, List.set_cons_zero, List.set_cons_succ]
                    refine AnyE.take (i := 1) (d := 190) (v := ?_) rfl (by kernel_rfl) (by kernel_rfl) (by kernel_rfl) (by kernel_rfl) (by kernel_rfl) (fun _ _ _ h => h) (Or.inl ⟨by rfl, ?_⟩) (by assumption) ?_
                    rotate_left
                    · (intro w hSw; rw [hSw]; go_simp; try with_reducible rfl)
                    simp only [Act.put, List.setIfInBounds_toArray, List.set_cons_zero, List.set_cons_succ]
                    refine AnyE.take (i := 2) (d := 191) (v := ?_) rfl (by kernel_rfl) (by kernel_rfl) (by kernel_rfl) (by kernel_rfl) (by kernel_rfl) (fun _ _ _ h => h) (Or.inl ⟨by rfl, ?_⟩) (by assumption) ?_
                    rotate_left
                    · (intro w hSw; rw [hSw]; go_simp; try with_reducible rfl)
                    simp only [Act.put, List.setIfInBounds_toArray, List.set_cons_zero, List.set_cons_succ]
                    refine AnyE.take (i := 3) (d := 192) (v := ?_) rfl (by kernel_rfl) (by kernel_rfl) (by kernel_rfl) (by kernel_rfl) (by kernel_rfl) (fun _ _ _ h => h) (Or.inl ⟨by rfl, ?_⟩) (by assumption) ?_
                    rotate_left
                    · (intro w hSw; rw [hSw]; go_simp; try with_reducible rfl)
                    simp only [Act.put, List.setIfInBounds_toArray, List.set_cons_zero, List.set_cons_succ]
                    refine AnyE.take (i := 4) (d := 193) (v := ?_) rfl (by kernel_rfl) (by kernel_rfl) (by kernel_rfl) (by kernel_rfl) (by kernel_rfl) (fun _ _ _ h => h) (Or.inl ⟨by rfl, ?_⟩) (by assumption) ?_
                    rotate_left
                    · (intro w hSw; rw [hSw]; go_simp; try with_reducible rfl)
                    simp only [Act.put, List.setIfInBounds_toArray, List.set_cons_zero, List.set_cons_succ]
                    refine AnyE.take (i := 5) (d := 194) (v := ?_) rfl (by kernel_rfl) (by kernel_rfl) (by kernel_rfl) (by kernel_rfl) (by kernel_rfl) (fun _ _ _ h => h) (Or.inl ⟨by rfl, ?_⟩) (by assumption) ?_
                    rotate_left
                    · (intro w hSw; rw [hSw]; go_simp; try with_reducible rfl)
                    simp only [Act.put, List.setIfInBounds_toArray, List.set_cons_zero, List.set_cons_succ]
                    refine AnyE.take (i := 6) (d := 195) (v := ?_) rfl (by kernel_rfl) (by kernel_rfl) (by kernel_rfl) (by kernel_rfl) (by kernel_rfl) (fun _ _ _ h => h) (Or.inl ⟨by rfl, ?_⟩) (by assumption) ?_
                    rotate_left
                    · (intro w hSw; rw [hSw]; go_simp; try with_reducible rfl)
                    simp only [Act.put, List.setIfInBounds_toArray, List.set_cons_zero, List.set_cons_succ]
                    refine AnyE.take (i := 8) (d := 197) (v := ?_) rfl (by kernel_rfl) (by kernel_rfl) (by kernel_rfl) (by kernel_rfl) (by kernel_rfl) (fun _ _ _ h => h) (Or.inl ⟨by rfl, ?_⟩) (by assumption) ?_
                    rotate_left
                    · (intro w hSw; rw [hSw]; go_simp; try with_reducible rfl)
                    simp only [Act.put, List.setIfInBounds_toArray, List.set_cons_zero, List.set_cons_succ]
                    refine AnyE.take (i := 9) (d := 198) (v := ?_) rfl (by kernel_rfl) (by kernel_rfl) (by kernel_rfl) (by kernel_rfl) (by kernel_rfl) (fun _ _ _ h => h) (Or.inl ⟨by rfl, ?_⟩) (by assumption) ?_
                    rotate_left
                    · (intro w hSw; rw [hSw]; go_simp; try with_reducible rfl)
                    simp only [Act.put, List.setIfInBounds_toArray, List.set_cons_zero, List.set_cons_succ]
                    refine AnyE.step (i := 7) (by kernel_rfl) (by rfl) rfl (fun K hK => ?_)
                    go_simp
                    go_at_call 73
                    (with_reducible refine (HQT2.out ).mono ?_)
                    rintro e w6 ⟨rfl, rfl⟩
                    go_wp2_with fail
                    refine hK.out _ _ ?_ (fun hHeld => ?_)
                    · exact rfl
                    clear hK K
                    try simp only [Act.put, List.setIfInBounds_toArray, List.set_cons_zero, List.set_cons_succ]
                    refine AnyE.step (i := 10) (by kernel_rfl) (by rfl) rfl (fun K hK => ?_)
                    go_simp
                    go_at_call 69
                    (with_reducible refine (HQD.out _ cb).mono ?_)
                    rintro e w6 ⟨rfl, rfl⟩
                    go_wp2_with fail
                    refine hK.out _ _ ?_ (fun hHeld => ?_)
                    · exact rfl
                    clear hK K
                    try simp only [Act.put, List.setIfInBounds_toArray, List.set_cons_zero, List.set_cons_succ]
                    refine AnyE.take (i := 11) (d := 200) (v := ?_) rfl (by kernel_rfl) (by kernel_rfl) (by kernel_rfl) (by kernel_rfl) (by kernel_rfl) (fun _ _ _ h => h) (Or.inl ⟨by rfl, ?_⟩) (by assumption) ?_
                    rotate_left
                    · (intro w hSw; rw [hSw]; go_simp; try with_reducible rfl)
                    simp only [Act.put, List.setIfInBounds_toArray, List.set_cons_zero, List.set_cons_succ]
                    refine AnyE.take (i := 12) (d := 201) (v := ?_) rfl (by kernel_rfl) (by kernel_rfl) (by kernel_rfl) (by kernel_rfl) (by kernel_rfl) (fun _ _ _ h => h) (Or.inl ⟨by rfl, ?_⟩) (by assumption) ?_
                    rotate_left
                    · (intro w hSw; rw [hSw]; go_simp; try with_reducible rfl)
                    simp only [Act.put, List.setIfInBounds_toArray, List.set_cons_zero, List.set_cons_succ]
                    refine AnyE.last (i := 13) (by kernel_rfl) rfl rfl (by kernel_rfl) (fun K hK => ?_)
                    go_simp
                    refine hK.out _ _ ?_
                    clear hK K
                    rw [← HWwi.out]
                    clear c0 c1 cb hHeld
                    have HRF := Lib.hid (HRW.out _ HBF.out)
                    have hx4 := box4 (a := .slice (some ⟨gD, 0, none⟩) (n + 1) (n + 1)) (b := .slice (some ⟨gC, 0, none⟩) (m + 1) (m + 1)) (c := .slice A (n + 1) (n + 1)) (d := .slice (some ⟨gE, 0, none⟩) (n + 1) (n + 1)) HRF.out
                    have hc4 := chg4 (w := wi) (g := w.heap.size + 1) (a := .slice (some ⟨gD, 0, none⟩) (n + 1) (n + 1)) (b := .slice (some ⟨gC, 0, none⟩) (m + 1) (m + 1)) (c := .slice A (n + 1) (n + 1)) (d := .slice (some ⟨gE, 0, none⟩) (n + 1) (n + 1))
                    have hT1 : w.heap.size + 2 ≤ T1 := by have h1 := HZ2.out; have h2 := HZ3.out; have h3 := HT1.out; omega
                    have HNZ := Lib.hid (HNF.out.keep fun z h1 h2 => hc4.block z h2 (.inr (by omega)))
                    have HBZ := Lib.hid (hc4.below (HB0.out.trans ((HB3.out.trans ((Below.refl _ _).drew.trans (HBF.out.mono (by show w3.heap.size ≤ T1; rw [HT1.out]; exact Nat.le_refl _)) |>.mono (by rw [← HZ3.out]; exact Nat.le_refl _))).mono HB0.out.size)) (by omega) (Nat.le_trans HB0.out.size (Nat.le_trans HB3.out.size (Nat.le_trans (Below.refl w3.heap.size w3).drew.size HBF.out.size))))
                    have d0 := box_cell HBxF.out 0 _ rfl
                    have d1 := box_cell HBxF.out 1 _ rfl
                    have d2 := box_cell HBxF.out 2 _ rfl
                    have d3 := box_cell HBxF.out 3 _ rfl
                    have z0 := box_cell HRF.out 0 (.slice none 0 0) rfl
                    have z1 := box_cell HRF.out 1 (.slice none 0 0) rfl
                    have z2 := box_cell HRF.out 2 (.slice none 0 0) rfl
                    have z3 := box_cell HRF.out 3 (.slice none 0 0) rfl
                    have y0 := box_free HRF.out 0
                    have y1 := box_free HRF.out 1
                    have y2 := box_free HRF.out 2
                    have y3 := box_free HRF.out 3
                    have v0 := box_cell hx4 0 _ rfl
                    have v1 := box_cell hx4 1 _ rfl
                    have v2 := box_cell hx4 2 _ rfl
                    have v3 := box_cell hx4 3 _ rfl
                    clear hx4 hc4
                    go_wp2
                    refine bodyPost_ret (v := .agg #[.slice (some ⟨gD, 0, none⟩) (n + 1) (n + 1), .slice (some ⟨gC, 0, none⟩) (m + 1) (m + 1), .slice A (n + 1) (n + 1), .slice (some ⟨gE, 0, none⟩) (n + 1) (n + 1)]) (by simp [results, Try.results39, go_sem, v0, v1, v2, v3]) rfl ⟨_, _, _, _, _, _, _, _, T1, _, rfl, by omega, HNZ.out, HBZ.out⟩
end Go.Proofs.Ytcjmapdeopffcaa
