/- Several small texts in one: PuN, PuP, PuQ, PuR, PuT, PuU. -/
import Derived.Test.YtcjmapdeopffcaaHk
import Derived.Test.YtcjmapdeopffcaaMyL
import Derived.BigRegion
namespace Go.Proofs.Ytcjmapdeopffcaa

section
open Go.RowKit Flo
set_option linter.unusedVariables false

set_option maxRecDepth 100000 in
set_option maxHeartbeats 1000000 in
theorem netDown_any (v b : Int) (g : Nat) (w : World) (c : w.cell? ⟨g, 0, none⟩ = some (.int .i64 b)) (hb : 2 ≤ b) (hb2 : b ≤ 100) (hv : 0 ≤ v) (hv2 : v ≤ 1000000) :
    Calls Try.prog 69 #[.int .i64 v, .pointer (some ⟨g, 0, none⟩)] w fun e w' => e = .returned (.int .i64 (dnV b v)) ∧ w = w' := by
  obtain ⟨q, hq⟩ : ∃ q, v.tdiv b = q := ⟨_, rfl⟩
  have h1 := dnV_bd hb hv
  have hq1 : dnV b v = q := hq
  rw [hq1] at h1 ⊢
  have W1 : IntKind.i64.wrap q = q := IntWalk.i64_in _ ⟨by omega, by omega⟩
  have hb0 : ¬ b = 0 := by omega
  clear h1 hq1
  go_enter Try.func69, Try.ntmps69
  go_wp2
  go_ret
  exact ⟨rfl, rfl⟩

set_option maxRecDepth 100000 in
set_option maxHeartbeats 1000000 in
theorem netUp_any (v b : Int) (g : Nat) (w : World) (c : w.cell? ⟨g, 0, none⟩ = some (.int .i64 b)) (hb : 2 ≤ b) (hb2 : b ≤ 100) (hv : 0 ≤ v) (hv2 : v ≤ 1000000) :
    Calls Try.prog 70 #[.int .i64 v, .pointer (some ⟨g, 0, none⟩)] w fun e w' => e = .returned (.int .i64 (upV b v)) ∧ w = w' := by
  obtain ⟨q, hq⟩ : ∃ q, (v + b - 1).tdiv b = q := ⟨_, rfl⟩
  have h1 := dnV_bd hb hv
  have hq1 : upV b v = q := hq
  rw [hq1] at h1 ⊢
  have W1 : IntKind.i64.wrap q = q := IntWalk.i64_in _ ⟨by omega, by omega⟩
  have hb0 : ¬ b = 0 := by omega
  clear h1 hq1
  go_enter Try.func70, Try.ntmps70
  go_wp2
  go_ret
  exact ⟨rfl, rfl⟩
theorem netDown_q (v b : Int) (g : Nat) (w : World) (c : w.cell? ⟨g, 0, none⟩ = some (.int .i64 b)) (hb : 2 ≤ b) (hb2 : b ≤ 100) (hv : 0 ≤ v) (hv2 : v ≤ 1000000) : Calls Try.prog 69 #[.int .i64 v, .pointer (some ⟨g, 0, none⟩)] w fun e w' => e = .returned (.int .i64 (dnV b v)) ∧ w' = w := (netDown_any v b g w c hb hb2 hv hv2).mono fun _ _ ⟨h1, h2⟩ => ⟨h1, h2.symm⟩
theorem netUp_q (v b : Int) (g : Nat) (w : World) (c : w.cell? ⟨g, 0, none⟩ = some (.int .i64 b)) (hb : 2 ≤ b) (hb2 : b ≤ 100) (hv : 0 ≤ v) (hv2 : v ≤ 1000000) : Calls Try.prog 70 #[.int .i64 v, .pointer (some ⟨g, 0, none⟩)] w fun e w' => e = .returned (.int .i64 (upV b v)) ∧ w' = w := (netUp_any v b g w c hb hb2 hv hv2).mono fun _ _ ⟨h1, h2⟩ => ⟨h1, h2.symm⟩
end

section
open Go.RowKit Flo
set_option linter.unusedVariables false

def ls5 (b0 b1 b2 b3 bx : Bool) : Array Bool := #[true, true, b0, true, true, b1, true, true, b2, true, true, b3, false, bx, false]
def putIf (b : Bool) (d : Nat) (v : Value) (a : Act) : Act := if b then a.put (some d) v else a
def ac5 (a : Act) (b0 b1 b2 b3 bx : Bool) (v0 v1 v2 v3 vx : Value) : Act := putIf bx 9 vx (putIf b3 41 v3 (putIf b2 38 v2 (putIf b1 35 v1 (putIf b0 32 v0 a))))
section
variable {a : Act} {d e k : Nat} {v u v0 v1 v2 v3 vx : Value} {b b0 b1 b2 b3 bx : Bool}
theorem put_comm2 (h : d ≠ e) : (a.put (some d) v).put (some e) u = (a.put (some e) u).put (some d) v := by
  simp only [Act.put]
  rw [Array.setIfInBounds_comm _ _ h]
theorem putIf_put (h : d ≠ e) : (putIf b d v a).put (some e) u = putIf b d v (a.put (some e) u) := by
  cases b
  · rfl
  · exact put_comm2 h
theorem eval_put2 (h : d ≠ k) : (a.put (some d) v).eval (.tmp k) = a.eval (.tmp k) := by
  simp only [Act.put, Act.eval, Array.getD_eq_getD_getElem?]
  rw [Array.getElem?_setIfInBounds_ne h]
theorem eval_putIf (h : d ≠ k) : (putIf b d v a).eval (.tmp k) = a.eval (.tmp k) := by
  cases b
  · rfl
  · exact eval_put2 h
theorem ac5_eval (h0 : 32 ≠ k) (h1 : 35 ≠ k) (h2 : 38 ≠ k) (h3 : 41 ≠ k) (hx : 9 ≠ k) : (ac5 a b0 b1 b2 b3 bx v0 v1 v2 v3 vx).eval (.tmp k) = a.eval (.tmp k) := by
  unfold ac5
  rw [eval_putIf hx, eval_putIf h3, eval_putIf h2, eval_putIf h1, eval_putIf h0]
theorem ac5_0 : (ac5 a false b1 b2 b3 bx v0 v1 v2 v3 vx).put (some 32) v = ac5 a true b1 b2 b3 bx v v1 v2 v3 vx := by
  unfold ac5
  rw [putIf_put (by decide), putIf_put (by decide), putIf_put (by decide), putIf_put (by decide)]; rfl
theorem ac5_1 : (ac5 a b0 false b2 b3 bx v0 v1 v2 v3 vx).put (some 35) v = ac5 a b0 true b2 b3 bx v0 v v2 v3 vx := by
  unfold ac5
  rw [putIf_put (by decide), putIf_put (by decide), putIf_put (by decide)]; rfl
theorem ac5_2 : (ac5 a b0 b1 false b3 bx v0 v1 v2 v3 vx).put (some 38) v = ac5 a b0 b1 true b3 bx v0 v1 v v3 vx := by
  unfold ac5
  rw [putIf_put (by decide), putIf_put (by decide)]; rfl
theorem ac5_3 : (ac5 a b0 b1 b2 false bx v0 v1 v2 v3 vx).put (some 41) v = ac5 a b0 b1 b2 true bx v0 v1 v2 v vx := by
  unfold ac5
  rw [putIf_put (by decide)]; rfl
theorem ac5_4 : (ac5 a b0 b1 b2 b3 false v0 v1 v2 v3 vx).put (some 9) v = ac5 a b0 b1 b2 b3 true v0 v1 v2 v3 v := rfl
end
/-- What holds of the blocks made so far. -/
structure F5 (w0 w : World) (T : Nat) (b : Nat → Bool) (g : Nat → Nat) (o : Nat → Obj) : Prop where
  below : Below T w0 w
  sz : T ≤ w.heap.size
  at_ : ∀ q, q < 5 → b q = true → w.heap[g q]? = some (o q) ∧ T ≤ g q ∧ g q < w.heap.size
  ne : ∀ q r, q < 5 → r < 5 → q ≠ r → b q = true → b r = true → g q ≠ g r
def upB (b : Nat → Bool) (q : Nat) : Nat → Bool := fun k => if k = q then true else b k
def upG (g : Nat → Nat) (q z : Nat) : Nat → Nat := fun k => if k = q then z else g k
theorem F5.step {w0 w : World} {T q : Nat} {b : Nat → Bool} {g : Nat → Nat} {o : Nat → Obj} (h : F5 w0 w T b g o) : F5 w0 (w.alloc (o q)) T (upB b q) (upG g q w.heap.size) o := by
  have bn := below_new w (o q)
  have hz : (w.alloc (o q)).heap.size = w.heap.size + 1 := World.size_alloc _ _
  refine ⟨h.below.trans (bn.mono h.sz), by rw [hz]; have := h.sz; omega, fun r hr hb => ?_, fun r s hr hs hrs hb1 hb2 => ?_⟩
  · unfold upB at hb
    unfold upG
    by_cases e : r = q
    · rw [if_pos e, e]
      exact ⟨heap_alloc_new w _, h.sz, by omega⟩
    · rw [if_neg e] at hb ⊢
      obtain ⟨h1, h2, h3⟩ := h.at_ r hr hb
      exact ⟨(bn.block _ h3).trans h1, h2, by omega⟩
  · unfold upB at hb1 hb2
    unfold upG
    by_cases e : r = q
    · rw [if_pos e, if_neg (by omega)]
      rw [if_neg (by omega)] at hb2
      have := (h.at_ s hs hb2).2.2
      omega
    · rw [if_neg e] at hb1 ⊢
      by_cases e2 : s = q
      · rw [if_pos e2]
        have := (h.at_ r hr hb1).2.2
        omega
      · rw [if_neg e2] at hb2 ⊢
        exact h.ne r s hr hs hrs hb1 hb2
def nn : Bool → Nat
  | true => 1
  | false => 0
theorem nn_le (b : Bool) : nn b ≤ 1 := by cases b <;> decide
theorem nn_one {b : Bool} (h : nn b = 1) : b = true := by
  cases b
  · cases h
  · rfl
def rdyB (b0 b1 b2 b3 bx : Bool) (l : List Nat) : Bool := !l.isEmpty && l.all fun j => (j == 2 && !b0) || ((j == 5 && !b1) || ((j == 8 && !b2) || ((j == 11 && !b3) || (j == 13 && !bx))))
theorem rdyB_of {b0 b1 b2 b3 bx : Bool} {l : List Nat} (h : rdyB b0 b1 b2 b3 bx l = true) : l ≠ [] ∧ ∀ j ∈ l, (j = 2 ∧ b0 = false) ∨ (j = 5 ∧ b1 = false) ∨ (j = 8 ∧ b2 = false) ∨ (j = 11 ∧ b3 = false) ∨ (j = 13 ∧ bx = false) := by
  unfold rdyB at h
  rw [Bool.and_eq_true, List.all_eq_true] at h
  refine ⟨fun e => by rw [e] at h; simp at h, fun j hj => ?_⟩
  have := h.2 j hj
  simpa using this
theorem mkOp {P : Program} {ops : Array Oper} {Q : Exit → Act → World → Prop} {i d s : Nat} {t : TypeId} {o : Oper} {a : Act} {w : World} {K : Act → World → Prop} {N : Int} {v : Nat → Value} {ob : Obj} (ho : ops[i]? = some o) (hg : o.guard = none) (hop : o.op = .makeSlice t (.tmp s) (.tmp s)) (hd : o.dst = some d) (he : a.eval (.tmp s) = .int .i64 N)
    (hrun : ∀ w, (Instr.makeSlice t (.int .i64 N) (.int .i64 N)).run P w = .ok (v w.heap.size) (w.alloc ob)) (h : K (a.put (some d) (v w.heap.size)) (w.alloc ob)) : wpOp P ops Q i K a w := by
  refine wpOp_step ho (fun K' hK => ?_)
  have hw : Region.wanted o (yielded ops a.tmps) = true := by simp [Region.wanted, hg]
  rw [if_pos hw]
  unfold Oper.wp
  simp [execOp, hop, he, hrun, Result.andThen]
  exact hK _ _ (by rw [hd]; exact h)
theorem fan5 {P : Program} {ops : Array Oper} {Q : Exit → Act → World → Prop} {a : Act} {w0 : World} {T : Nat} {o : Nat → Obj} {v0 v1 v2 v3 vx : Nat → Value}
    (hop0 : ∀ (a' : Act) (w : World) (K : Act → World → Prop), a'.eval (.tmp 31) = a.eval (.tmp 31) → K (a'.put (some 32) (v0 w.heap.size)) (w.alloc (o 0)) → wpOp P ops Q 2 K a' w)
    (hop1 : ∀ (a' : Act) (w : World) (K : Act → World → Prop), a'.eval (.tmp 34) = a.eval (.tmp 34) → K (a'.put (some 35) (v1 w.heap.size)) (w.alloc (o 1)) → wpOp P ops Q 5 K a' w)
    (hop2 : ∀ (a' : Act) (w : World) (K : Act → World → Prop), a'.eval (.tmp 37) = a.eval (.tmp 37) → K (a'.put (some 38) (v2 w.heap.size)) (w.alloc (o 2)) → wpOp P ops Q 8 K a' w)
    (hop3 : ∀ (a' : Act) (w : World) (K : Act → World → Prop), a'.eval (.tmp 40) = a.eval (.tmp 40) → K (a'.put (some 41) (v3 w.heap.size)) (w.alloc (o 3)) → wpOp P ops Q 11 K a' w)
    (hopx : ∀ (a' : Act) (w : World) (K : Act → World → Prop), K (a'.put (some 9) (vx w.heap.size)) (w.alloc (o 4)) → wpOp P ops Q 13 K a' w)
    (hr : ∀ b0 b1 b2 b3 bx : Bool, ((b0 && b1 && b2 && b3) || rdyB b0 b1 b2 b3 bx (Region.ready .any ops (ls5 b0 b1 b2 b3 bx))) = true)
    (H1 : ∀ (g : Nat → Nat) w, F5 w0 w T (fun _ => true) g o → AnyE P .any ops Q (fun _ => True) 14 2 (ls5 true true true true true) (ac5 a true true true true true (v0 (g 0)) (v1 (g 1)) (v2 (g 2)) (v3 (g 3)) (vx (g 4))) w)
    (H2 : ∀ (g : Nat → Nat) w, F5 w0 w T (fun k => decide (k ≠ 4)) g o → AnyE P .any ops Q (fun _ => True) 14 3 (ls5 true true true true false) (ac5 a true true true true false (v0 (g 0)) (v1 (g 1)) (v2 (g 2)) (v3 (g 3)) (vx (g 4))) w) :
    ∀ (r : Nat) (b : Nat → Bool) (g : Nat → Nat) (w : World), nn (b 0) + nn (b 1) + nn (b 2) + nn (b 3) + nn (b 4) + r = 5 → F5 w0 w T b g o → AnyE P .any ops Q (fun _ => True) 14 (r + 2) (ls5 (b 0) (b 1) (b 2) (b 3) (b 4)) (ac5 a (b 0) (b 1) (b 2) (b 3) (b 4) (v0 (g 0)) (v1 (g 1)) (v2 (g 2)) (v3 (g 3)) (vx (g 4))) w := by
  intro r
  induction r with
  | zero =>
    intro b g w hn hF
    have hb : b 0 = true ∧ b 1 = true ∧ b 2 = true ∧ b 3 = true ∧ b 4 = true := by
      have n0 := nn_le (b 0)
      have n1 := nn_le (b 1)
      have n2 := nn_le (b 2)
      have n3 := nn_le (b 3)
      have n4 := nn_le (b 4)
      exact ⟨nn_one (by omega), nn_one (by omega), nn_one (by omega), nn_one (by omega), nn_one (by omega)⟩
    rw [hb.1, hb.2.1, hb.2.2.1, hb.2.2.2.1, hb.2.2.2.2]
    have ht : ∀ q, q < 5 → b q = true := fun q hq => by
      rcases q with _ | _ | _ | _ | _ | q
      · exact hb.1
      · exact hb.2.1
      · exact hb.2.2.1
      · exact hb.2.2.2.1
      · exact hb.2.2.2.2
      · omega
    exact H1 g w ⟨hF.below, hF.sz, fun q hq _ => hF.at_ q hq (ht q hq), fun q s hq hs hqs _ _ => hF.ne q s hq hs hqs (ht q hq) (ht s hs)⟩
  | succ r ih =>
    intro b g w hn hF
    by_cases hall : (b 0 && b 1 && b 2 && b 3) = true
    · simp only [Bool.and_eq_true] at hall
      obtain ⟨⟨⟨h0, h1⟩, h2⟩, h3⟩ := hall
      have h4 : b 4 = false ∧ r = 0 := by
        rw [h0, h1, h2, h3] at hn
        cases h4 : b 4
        · rw [h4] at hn
          have hn : 1 + 1 + 1 + 1 + 0 + (r + 1) = 5 := hn
          exact ⟨rfl, by omega⟩
        · rw [h4] at hn
          have hn : 1 + 1 + 1 + 1 + 1 + (r + 1) = 5 := hn
          omega
      obtain ⟨h4, rfl⟩ := h4
      rw [h0, h1, h2, h3, h4]
      have ht : ∀ q, q < 5 → decide (q ≠ 4) = true → b q = true := fun q hq hd => by
        rcases q with _ | _ | _ | _ | _ | q
        · exact h0
        · exact h1
        · exact h2
        · exact h3
        · simp at hd
        · omega
      exact H2 g w ⟨hF.below, hF.sz, fun q hq hb => hF.at_ q hq (ht q hq hb), fun q s hq hs hqs hb1 hb2 => hF.ne q s hq hs hqs (ht q hq hb1) (ht s hs hb2)⟩
    · have hall' : (b 0 && b 1 && b 2 && b 3) = false := by simpa using hall
      have hr0 := hr (b 0) (b 1) (b 2) (b 3) (b 4)
      rw [hall', Bool.false_or] at hr0
      obtain ⟨hne, hmem⟩ := rdyB_of hr0
      refine ⟨fun h => absurd h hne, fun j hj => ?_⟩
      rcases hmem j hj with ⟨rfl, e⟩ | ⟨rfl, e⟩ | ⟨rfl, e⟩ | ⟨rfl, e⟩ | ⟨rfl, e⟩
      · refine hop0 _ w _ (ac5_eval (by decide) (by decide) (by decide) (by decide) (by decide)) ⟨fun _ => trivial, ?_⟩
        have := ih (upB b 0) (upG g 0 w.heap.size) (w.alloc (o 0)) (by have e0 : nn (b 0) = 0 := (by rw [e]; rfl); exact (show 1 + nn (b 1) + nn (b 2) + nn (b 3) + nn (b 4) + r = 5 from by omega)) hF.step
        rw [e, ac5_0]
        exact this
      · refine hop1 _ w _ (ac5_eval (by decide) (by decide) (by decide) (by decide) (by decide)) ⟨fun _ => trivial, ?_⟩
        have := ih (upB b 1) (upG g 1 w.heap.size) (w.alloc (o 1)) (by have e0 : nn (b 1) = 0 := (by rw [e]; rfl); exact (show nn (b 0) + 1 + nn (b 2) + nn (b 3) + nn (b 4) + r = 5 from by omega)) hF.step
        rw [e, ac5_1]
        exact this
      · refine hop2 _ w _ (ac5_eval (by decide) (by decide) (by decide) (by decide) (by decide)) ⟨fun _ => trivial, ?_⟩
        have := ih (upB b 2) (upG g 2 w.heap.size) (w.alloc (o 2)) (by have e0 : nn (b 2) = 0 := (by rw [e]; rfl); exact (show nn (b 0) + nn (b 1) + 1 + nn (b 3) + nn (b 4) + r = 5 from by omega)) hF.step
        rw [e, ac5_2]
        exact this
      · refine hop3 _ w _ (ac5_eval (by decide) (by decide) (by decide) (by decide) (by decide)) ⟨fun _ => trivial, ?_⟩
        have := ih (upB b 3) (upG g 3 w.heap.size) (w.alloc (o 3)) (by have e0 : nn (b 3) = 0 := (by rw [e]; rfl); exact (show nn (b 0) + nn (b 1) + nn (b 2) + 1 + nn (b 4) + r = 5 from by omega)) hF.step
        rw [e, ac5_3]
        exact this
      · refine hopx _ w _ ⟨fun _ => trivial, ?_⟩
        have := ih (upB b 4) (upG g 4 w.heap.size) (w.alloc (o 4)) (by have e0 : nn (b 4) = 0 := (by rw [e]; rfl); exact (show nn (b 0) + nn (b 1) + nn (b 2) + nn (b 3) + 1 + r = 5 from by omega)) hF.step
        rw [e, ac5_4]
        exact this
end

section
open Go.RowKit Flo
set_option linter.unusedVariables false

def Flo.Net.setR (t : Net) (i : Nat) (v : Int) : Net := { t with R := fun k => if k = i then v else t.R k }
def Flo.Net.setC (t : Net) (i : Nat) (v : Int) : Net := { t with C := fun k => if k = i then v else t.C k }
def Flo.Net.setLo (t : Net) (i j : Nat) (v : Int) : Net := { t with lo := updM t.lo i j v }
def Flo.Net.setHi (t : Net) (i j : Nat) (v : Int) : Net := { t with hi := updM t.hi i j v }
/-- The memory of a network: the first k rows of its bounds are there. -/
structure NetW (w : World) (B : Nat) (f : Nat → Option Rw) (D C A E : Option Addr) (cD cC cA cE k : Nat) (t : Net) : Prop where
  fam : Fam w B f
  d : Sl f 0 D cD (lst t.n t.R)
  c : Sl f 1 C cC (lst t.m t.C)
  a : Top w B f (fun i => 4 + 2 * i) A t.n cA k (fun i => lst t.m (t.lo i))
  e : Top w B f (fun i => 5 + 2 * i) E t.n cE k (fun i => lst t.m (t.hi i))
  ne : ∀ g, rowOf A = some g → rowOf E ≠ some g
section
variable {w w' : World} {B : Nat} {f : Nat → Option Rw} {D C A E : Option Addr} {cD cC cA cE k i j : Nat} {t : Net}
theorem NetW.below (h : NetW w B f D C A E cD cC cA cE k t) (hb : Below w.heap.size w w') : NetW w' B f D C A E cD cC cA cE k t := ⟨h.fam.below hb, h.d, h.c, h.a.below hb, h.e.below hb, h.ne⟩
theorem NetW.keep (h : NetW w B f D C A E cD cC cA cE k t) (hk : ∀ z, B ≤ z → z < w.heap.size → w'.heap[z]? = w.heap[z]?) : NetW w' B f D C A E cD cC cA cE k t :=
  ⟨h.fam.keep fun i r hi => hk _ (h.fam.lt hi).1 (h.fam.lt hi).2, h.d, h.c, h.a.keep fun g hg hz => hk g (h.a.ge g hg).1 hz, h.e.keep fun g hg hz => hk g (h.e.ge g hg).1 hz, h.ne⟩
theorem NetW.read (h : NetW w B f D C A E cD cC cA cE t.n t) : NetR w D C A E t := by
  have e1 := (h.d.own h.fam).ints
  have e2 := (h.c.own h.fam).ints
  rw [lst_len] at e1 e2
  exact ⟨e1, e2, h.a.read h.fam, h.e.read h.fam⟩
theorem Sl.at_ {q c : Nat} {P : Option Addr} {xs : List Int} (h : Sl f q P c xs) (hj : j < xs.length) : ∃ r, f q = Option.some r ∧ P = r.A ∧ c = r.c ∧ xs = r.xs := by
  rcases h with ⟨_, _, _, rfl⟩ | h
  · simp at hj
  · exact h
theorem NetW.off (h : NetW w B f D C A E cD cC cA cE k t) {q : Nat} {r : Rw} (hq : f q = some r) : ∀ (gx : Nat) (cs : Array Value) (T : TypeId), w.heap[gx]? = some (.cells cs T (0, 0)) → T ≠ 3 → gx ≠ r.b := fun gx cs T hx hT e => own_box_ne (h.fam.own q r hq) hx hT (by show some r.b = some gx; rw [e])
theorem upF_sep {q c Tv : Nat} {r0 : Rw} {xs : List Int} (h : ∀ i r, f i = some r → r.b < Tv) (hq : f q = some r0) : r0.b < Tv ∧ ∀ i r, upF f q ⟨r0.b, c, xs⟩ i = some r → r.b < Tv := by
  refine ⟨h q r0 hq, fun i r hi => ?_⟩
  by_cases e : i = q
  · subst e
    rw [upF_at] at hi
    obtain rfl := Option.some.inj hi
    exact h i r0 hq
  · rw [upF_ne e] at hi
    exact h i r hi
/-- One of the sums of the rows. -/
theorem NetW.cellR (h : NetW w B f D C A E cD cC cA cE k t) (hi : i < t.n) : ∃ g, D = some ⟨g, 0, none⟩ ∧ w.cell? ⟨g, i, none⟩ = some (.int .i64 (t.R i)) ∧ w.frozen? ⟨g, i, none⟩ = false ∧ B ≤ g ∧ (∀ (gx : Nat) (cs : Array Value) (T : TypeId), w.heap[gx]? = some (.cells cs T (0, 0)) → T ≠ 3 → gx ≠ g) ∧
    ∀ v, ∃ f', NetW (w.setCell ⟨g, i, none⟩ (.int .i64 v)) B f' D C A E cD cC cA cE k (t.setR i v) ∧ ∀ Tv, (∀ i r, f i = some r → r.b < Tv) → g < Tv ∧ ∀ i r, f' i = some r → r.b < Tv := by
  obtain ⟨r, e1, rfl, rfl, e4⟩ := h.d.at_ (j := i) (by rw [lst_len]; exact hi)
  have hxs : r.xs = lst t.n t.R := e4.symm
  obtain ⟨c1, c2⟩ := h.fam.cell e1 (j := i) (by rw [hxs, lst_len]; exact hi)
  rw [hxs, lst_get hi] at c1
  have hlt := h.fam.lt e1
  refine ⟨r.b, rfl, c1, c2, hlt.1, h.off e1, fun v => ⟨upF f 0 ⟨r.b, r.c, r.xs.set i v⟩, ?_, fun Tv hT => upF_sep hT e1⟩⟩
  have hA : ∀ g, rowOf A = some g → g ≠ r.b := fun g hg e => h.a.ne_own (h.fam.own 0 r e1) g hg (by rw [e]; rfl)
  have hE : ∀ g, rowOf E = some g → g ≠ r.b := fun g hg e => h.e.ne_own (h.fam.own 0 r e1) g hg (by rw [e]; rfl)
  have hs : Sl (upF f 0 ⟨r.b, r.c, r.xs.set i v⟩) 0 r.A r.c (r.xs.set i v) := Sl.now (r := ⟨r.b, r.c, r.xs.set i v⟩)
  rw [hxs, lst_set hi] at hs
  exact ⟨h.fam.store e1 i v, by rw [hxs, lst_set hi]; exact hs, h.c.other (by decide), (h.a.keep fun g hg _ => Below.heap_setCell w ⟨r.b, i, none⟩ _ g (hA g hg)).other fun q _ => by omega, (h.e.keep fun g hg _ => Below.heap_setCell w ⟨r.b, i, none⟩ _ g (hE g hg)).other fun q _ => by omega, h.ne⟩
theorem NetW.cellC (h : NetW w B f D C A E cD cC cA cE k t) (hi : i < t.m) : ∃ g, C = some ⟨g, 0, none⟩ ∧ w.cell? ⟨g, i, none⟩ = some (.int .i64 (t.C i)) ∧ w.frozen? ⟨g, i, none⟩ = false ∧ B ≤ g ∧ (∀ (gx : Nat) (cs : Array Value) (T : TypeId), w.heap[gx]? = some (.cells cs T (0, 0)) → T ≠ 3 → gx ≠ g) ∧
    ∀ v, ∃ f', NetW (w.setCell ⟨g, i, none⟩ (.int .i64 v)) B f' D C A E cD cC cA cE k (t.setC i v) ∧ ∀ Tv, (∀ i r, f i = some r → r.b < Tv) → g < Tv ∧ ∀ i r, f' i = some r → r.b < Tv := by
  obtain ⟨r, e1, rfl, rfl, e4⟩ := h.c.at_ (j := i) (by rw [lst_len]; exact hi)
  have hxs : r.xs = lst t.m t.C := e4.symm
  obtain ⟨c1, c2⟩ := h.fam.cell e1 (j := i) (by rw [hxs, lst_len]; exact hi)
  rw [hxs, lst_get hi] at c1
  have hlt := h.fam.lt e1
  refine ⟨r.b, rfl, c1, c2, hlt.1, h.off e1, fun v => ⟨upF f 1 ⟨r.b, r.c, r.xs.set i v⟩, ?_, fun Tv hT => upF_sep hT e1⟩⟩
  have hA : ∀ g, rowOf A = some g → g ≠ r.b := fun g hg e => h.a.ne_own (h.fam.own 1 r e1) g hg (by rw [e]; rfl)
  have hE : ∀ g, rowOf E = some g → g ≠ r.b := fun g hg e => h.e.ne_own (h.fam.own 1 r e1) g hg (by rw [e]; rfl)
  have hs : Sl (upF f 1 ⟨r.b, r.c, r.xs.set i v⟩) 1 r.A r.c (r.xs.set i v) := Sl.now (r := ⟨r.b, r.c, r.xs.set i v⟩)
  rw [hxs, lst_set hi] at hs
  exact ⟨h.fam.store e1 i v, h.d.other (by decide), by rw [hxs, lst_set hi]; exact hs, (h.a.keep fun g hg _ => Below.heap_setCell w ⟨r.b, i, none⟩ _ g (hA g hg)).other fun q _ => by omega, (h.e.keep fun g hg _ => Below.heap_setCell w ⟨r.b, i, none⟩ _ g (hE g hg)).other fun q _ => by omega, h.ne⟩
/-- One of the lower bounds. -/
theorem NetW.cellLo (h : NetW w B f D C A E cD cC cA cE k t) (hk : k ≤ t.n) (hi : i < k) (hj : j < t.m) : ∃ g0 g cv, A = some ⟨g0, 0, none⟩ ∧ w.cell? ⟨g0, i, none⟩ = some (.slice (some ⟨g, 0, none⟩) t.m cv) ∧ w.cell? ⟨g, j, none⟩ = some (.int .i64 (t.lo i j)) ∧ w.frozen? ⟨g, j, none⟩ = false ∧ B ≤ g ∧ (∀ (gx : Nat) (cs : Array Value) (T : TypeId), w.heap[gx]? = some (.cells cs T (0, 0)) → T ≠ 3 → gx ≠ g) ∧
    ((∀ z, rowOf E = some z → z ≠ g) ∧ g0 ≠ g) ∧
    ∀ v, ∃ f', NetW (w.setCell ⟨g, j, none⟩ (.int .i64 v)) B f' D C A E cD cC cA cE k (t.setLo i j v) ∧ ∀ Tv, (∀ i r, f i = some r → r.b < Tv) → g < Tv ∧ ∀ i r, f' i = some r → r.b < Tv := by
  obtain ⟨ys, h1, h2⟩ := h.a
  obtain ⟨r, e1, e2, e3⟩ := h2 i hi
  have hxs : r.xs = lst t.m (t.lo i) := e2
  rw [lst_len] at e3
  obtain ⟨g0, rfl, _, _⟩ := row_head h1 (by omega)
  have hc := World.ownsRow.cellAt h1 i (by omega)
  obtain ⟨c1, c2⟩ := h.fam.cell e1 (j := j) (by rw [hxs, lst_len]; exact hj)
  rw [hxs, lst_get hj] at c1
  have hlt := h.fam.lt e1
  have hA : ∀ g, rowOf (some (⟨g0, 0, none⟩ : Addr)) = some g → g ≠ r.b := fun g hg e => h.a.ne_own (h.fam.own _ r e1) g hg (by rw [e]; rfl)
  have hE : ∀ g, rowOf E = some g → g ≠ r.b := fun g hg e => h.e.ne_own (h.fam.own _ r e1) g hg (by rw [e]; rfl)
  refine ⟨g0, r.b, r.c, rfl, hc.trans e3, c1, c2, hlt.1, h.off e1, ⟨hE, hA g0 rfl⟩, fun v => ⟨upF f (4 + 2 * i) ⟨r.b, r.c, r.xs.set j v⟩, ?_, fun Tv hT => upF_sep hT e1⟩⟩
  refine ⟨h.fam.store e1 j v, h.d.other (by omega), h.c.other (by omega), (h.a.keep fun g hg _ => Below.heap_setCell w ⟨r.b, j, none⟩ _ g (hA g hg)).fn fun q hq r' hr' hx => ?_, (h.e.keep fun g hg _ => Below.heap_setCell w ⟨r.b, j, none⟩ _ g (hE g hg)).other fun q _ => by omega, h.ne⟩
  by_cases e : q = i
  · subst e
    rw [e1] at hr'
    obtain rfl := Option.some.inj hr'
    refine ⟨⟨r.b, r.c, r.xs.set j v⟩, upF_at, ?_, rfl, rfl, by show (lst t.m _).length = _; rw [lst_len, lst_len]⟩
    show r.xs.set j v = lst t.m (updM t.lo q j v q)
    rw [hxs, lst_set hj]
    exact lst_congr fun z _ => by
      unfold updM
      by_cases e5 : z = j
      · rw [if_pos e5, if_pos ⟨rfl, e5⟩]
      · rw [if_neg e5, if_neg (fun h => e5 h.2)]
  · refine ⟨r', by rw [upF_ne (by omega)]; exact hr', ?_, rfl, rfl, by show (lst t.m _).length = _; rw [lst_len, lst_len]⟩
    rw [hx]
    exact lst_congr fun z _ => by
      show t.lo q z = updM t.lo i j v q z
      unfold updM
      rw [if_neg (fun h => e h.1)]
theorem NetW.cellHi (h : NetW w B f D C A E cD cC cA cE k t) (hk : k ≤ t.n) (hi : i < k) (hj : j < t.m) : ∃ g0 g cv, E = some ⟨g0, 0, none⟩ ∧ w.cell? ⟨g0, i, none⟩ = some (.slice (some ⟨g, 0, none⟩) t.m cv) ∧ w.cell? ⟨g, j, none⟩ = some (.int .i64 (t.hi i j)) ∧ w.frozen? ⟨g, j, none⟩ = false ∧ B ≤ g ∧ (∀ (gx : Nat) (cs : Array Value) (T : TypeId), w.heap[gx]? = some (.cells cs T (0, 0)) → T ≠ 3 → gx ≠ g) ∧
    (∀ z, rowOf A = some z → z ≠ g) ∧
    ∀ v, ∃ f', NetW (w.setCell ⟨g, j, none⟩ (.int .i64 v)) B f' D C A E cD cC cA cE k (t.setHi i j v) ∧ ∀ Tv, (∀ i r, f i = some r → r.b < Tv) → g < Tv ∧ ∀ i r, f' i = some r → r.b < Tv := by
  obtain ⟨ys, h1, h2⟩ := h.e
  obtain ⟨r, e1, e2, e3⟩ := h2 i hi
  have hxs : r.xs = lst t.m (t.hi i) := e2
  rw [lst_len] at e3
  obtain ⟨g0, rfl, _, _⟩ := row_head h1 (by omega)
  have hc := World.ownsRow.cellAt h1 i (by omega)
  obtain ⟨c1, c2⟩ := h.fam.cell e1 (j := j) (by rw [hxs, lst_len]; exact hj)
  rw [hxs, lst_get hj] at c1
  have hlt := h.fam.lt e1
  have hE : ∀ g, rowOf (some (⟨g0, 0, none⟩ : Addr)) = some g → g ≠ r.b := fun g hg e => h.e.ne_own (h.fam.own _ r e1) g hg (by rw [e]; rfl)
  have hA : ∀ g, rowOf A = some g → g ≠ r.b := fun g hg e => h.a.ne_own (h.fam.own _ r e1) g hg (by rw [e]; rfl)
  refine ⟨g0, r.b, r.c, rfl, hc.trans e3, c1, c2, hlt.1, h.off e1, hA, fun v => ⟨upF f (5 + 2 * i) ⟨r.b, r.c, r.xs.set j v⟩, ?_, fun Tv hT => upF_sep hT e1⟩⟩
  refine ⟨h.fam.store e1 j v, h.d.other (by omega), h.c.other (by omega), (h.a.keep fun g hg _ => Below.heap_setCell w ⟨r.b, j, none⟩ _ g (hA g hg)).other fun q _ => by omega, (h.e.keep fun g hg _ => Below.heap_setCell w ⟨r.b, j, none⟩ _ g (hE g hg)).fn fun q hq r' hr' hx => ?_, h.ne⟩
  by_cases e : q = i
  · subst e
    rw [e1] at hr'
    obtain rfl := Option.some.inj hr'
    refine ⟨⟨r.b, r.c, r.xs.set j v⟩, upF_at, ?_, rfl, rfl, by show (lst t.m _).length = _; rw [lst_len, lst_len]⟩
    show r.xs.set j v = lst t.m (updM t.hi q j v q)
    rw [hxs, lst_set hj]
    exact lst_congr fun z _ => by
      unfold updM
      by_cases e5 : z = j
      · rw [if_pos e5, if_pos ⟨rfl, e5⟩]
      · rw [if_neg e5, if_neg (fun h => e5 h.2)]
  · refine ⟨r', by rw [upF_ne (by omega)]; exact hr', ?_, rfl, rfl, by show (lst t.m _).length = _; rw [lst_len, lst_len]⟩
    rw [hx]
    exact lst_congr fun z _ => by
      show t.hi q z = updM t.hi i j v q z
      unfold updM
      rw [if_neg (fun h => e h.1)]
theorem NetW.fn {t' : Net} (h : NetW w B f D C A E cD cC cA cE k t) (en : t'.n = t.n) (em : t'.m = t.m) (h1 : ∀ i, i < t.n → t'.R i = t.R i) (h2 : ∀ i, i < t.m → t'.C i = t.C i) (h3 : ∀ i j, i < t.n → j < t.m → t'.lo i j = t.lo i j) (h4 : ∀ i j, i < t.n → j < t.m → t'.hi i j = t.hi i j) (hk : k ≤ t.n) : NetW w B f D C A E cD cC cA cE k t' := by
  refine ⟨h.fam, ?_, ?_, ?_, ?_, h.ne⟩
  · rw [en, lst_congr h1]; exact h.d
  · rw [em, lst_congr h2]; exact h.c
  · rw [en]
    exact h.a.fn fun q hq r hr hx => ⟨r, hr, by rw [hx, em]; exact lst_congr fun j hj => (h3 q j (by omega) hj).symm, rfl, rfl, by rw [lst_len, lst_len, em]⟩
  · rw [en]
    exact h.e.fn fun q hq r hr hx => ⟨r, hr, by rw [hx, em]; exact lst_congr fun j hj => (h4 q j (by omega) hj).symm, rfl, rfl, by rw [lst_len, lst_len, em]⟩
end
end

section
open Go.RowKit Flo
set_option linter.unusedVariables false

theorem made_int (n : Nat) : (madeCells #[Value.int .i64 0] n).toList = (lst n (fun _ => 0)).map (Value.int .i64) := by
  have h := map_replicate0 n
  rw [rep_lst, Nat.mul_one] at h
  exact h
theorem own_heap {w : World} {B g n : Nat} {arr : Array Value} {xs : List Int} (h : w.heap[g]? = some (.cells arr 3 (0, 0))) (hB : B ≤ g) (he : arr.toList = xs.map (Value.int .i64)) (hl : xs.length = n) (hn : n ≤ 1000) : Own w B (some ⟨g, 0, none⟩) n n xs := by
  have hs : arr.size = n := by
    have := congrArg List.length he
    simpa [hl] using this
  exact ⟨by simp [hl], .inr ⟨g, n, arr, rfl, hB, h, Nat.le_refl _, by unfold maxLen; omega, by omega, by rw [Nat.mul_one, he, List.take_of_length_le (by simp [hl])]⟩⟩
/-- The network of nothing. -/
def zeroN (n m : Nat) : Net := { n := n, m := m, R := fun _ => 0, C := fun _ => 0, lo := fun _ _ => 0, hi := fun _ _ => 0 }
theorem NetW.start {w : World} {B n m g0 g1 g2 g3 : Nat} (hn : n ≤ 1000) (hm : m ≤ 1000) (h0 : w.heap[g0]? = some (.cells (madeCells #[Value.int .i64 0] n) 3 (0, 0))) (h1 : w.heap[g1]? = some (.cells (madeCells #[Value.int .i64 0] m) 3 (0, 0)))
    (h2 : w.heap[g2]? = some (.cells (madeCells #[Value.slice none 0 0] n) 24 (0, 0))) (h3 : w.heap[g3]? = some (.cells (madeCells #[Value.slice none 0 0] n) 24 (0, 0))) (b0 : B ≤ g0) (b1 : B ≤ g1) (b2 : B ≤ g2) (b3 : B ≤ g3) (n01 : g0 ≠ g1) (n23 : g2 ≠ g3) :
    ∃ f, NetW w B f (some ⟨g0, 0, none⟩) (some ⟨g1, 0, none⟩) (some ⟨g2, 0, none⟩) (some ⟨g3, 0, none⟩) n m n n 0 (zeroN n m) := by
  have f1 : Fam w B (upF (fun _ => none) 0 ⟨g0, n, lst n (fun _ => 0)⟩) := (Fam.nil (w := w)).put (by show Own w B _ (lst n _).length n _; rw [lst_len]; exact own_heap h0 b0 (made_int n) (lst_len _ _) hn) fun j s _ h => (by cases h)
  have f2 := f1.put (i := 1) (w' := w) (r := ⟨g1, m, lst m (fun _ => 0)⟩) (by show Own w B _ (lst m _).length m _; rw [lst_len]; exact own_heap h1 b1 (made_int m) (lst_len _ _) hm) fun j s hj h => by
    by_cases e : j = 0
    · subst e
      rw [upF_at] at h
      obtain rfl := Option.some.inj h
      exact ⟨n01, rfl⟩
    · rw [upF_ne e] at h; cases h
  have hrow : ∀ {g : Nat}, w.heap[g]? = some (.cells (madeCells #[Value.slice none 0 0] n) 24 (0, 0)) → B ≤ g → w.ownsRow B 24 1 (.slice (some ⟨g, 0, none⟩) n n) n (madeCells #[Value.slice none 0 0] n).toList := fun {g} h hb => by
    have hs : (madeCells #[Value.slice none 0 0] n).size = n := by simp [madeCells]
    exact ⟨by simp [hs], .inr ⟨g, n, _, rfl, hb, h, Nat.le_refl _, by unfold maxLen; omega, by omega, by rw [Nat.mul_one, List.take_of_length_le (by simp [hs])]⟩⟩
  exact ⟨_, f2, Sl.other (Sl.now (r := ⟨g0, n, lst n (fun _ => 0)⟩)) (by decide), Sl.now (r := ⟨g1, m, lst m (fun _ => 0)⟩), ⟨_, hrow h2 b2, fun t ht => absurd ht (by omega)⟩, ⟨_, hrow h3 b3, fun t ht => absurd ht (by omega)⟩, fun g hg hE => n23 ((Option.some.inj hg).trans (Option.some.inj hE).symm)⟩
section
variable {w : World} {B : Nat} {f : Nat → Option Rw} {D C A E : Option Addr} {cD cC cA cE k : Nat} {t : Net}
/-- One row more of both bounds. -/
theorem NetW.rows (h : NetW w B f D C A E cD cC cA cE k t) (hk : k < t.n) (hm : t.m ≤ 1000) (hB : B ≤ w.heap.size) (h0 : ∀ j, t.lo k j = 0 ∧ t.hi k j = 0) : ∃ gA gE, A = some ⟨gA, 0, none⟩ ∧ E = some ⟨gE, 0, none⟩ ∧ gA ≠ gE ∧ (∃ u, w.cell? ⟨gA, k, none⟩ = some u) ∧ w.frozen? ⟨gA, k, none⟩ = false ∧ (∃ u, w.cell? ⟨gE, k, none⟩ = some u) ∧ w.frozen? ⟨gE, k, none⟩ = false ∧ B ≤ gA ∧ gA < w.heap.size ∧ B ≤ gE ∧ gE < w.heap.size ∧
    (∀ (gx : Nat) (cs : Array Value) (T : TypeId), w.heap[gx]? = some (.cells cs T (0, 0)) → T ≠ 24 → gx ≠ gA ∧ gx ≠ gE) ∧
    ∀ (p q : Nat) (w' : World), p ≠ q → w.heap.size ≤ p → w.heap.size ≤ q → w.heap.size ≤ w'.heap.size → w'.heap[p]? = some (.cells (madeCells #[Value.int .i64 0] t.m) 3 (0, 0)) → w'.heap[q]? = some (.cells (madeCells #[Value.int .i64 0] t.m) 3 (0, 0)) →
      w'.heap[gA]? = (w.setCell ⟨gA, k, none⟩ (.slice (some ⟨p, 0, none⟩) t.m t.m)).heap[gA]? → w'.heap[gE]? = (w.setCell ⟨gE, k, none⟩ (.slice (some ⟨q, 0, none⟩) t.m t.m)).heap[gE]? → (∀ z, z < w.heap.size → z ≠ gA → z ≠ gE → w'.heap[z]? = w.heap[z]?) →
      ∃ f', NetW w' B f' D C A E cD cC cA cE (k + 1) t := by
  obtain ⟨ys, a1, a2⟩ := h.a
  obtain ⟨zs, e1, e2⟩ := h.e
  obtain ⟨gA, rfl, ga1, ga2⟩ := row_head a1 (by omega)
  obtain ⟨gE, rfl, ge1, ge2⟩ := row_head e1 (by omega)
  have hne : gA ≠ gE := fun e => h.ne gA rfl (by rw [e]; rfl)
  have hbox : ∀ {g n c : Nat} {us : List Value}, w.ownsRow B 24 1 (.slice (some ⟨g, 0, none⟩) n c) n us → 0 < n → ∃ cs, w.heap[g]? = some (.cells cs 24 (0, 0)) := fun {g n c us} hr hn => by
    rcases hr.2 with ⟨_, h2⟩ | ⟨g', cap, cur, hv, _, hh, _⟩
    · omega
    · injection hv with hv
      injection hv with hv
      injection hv with hv
      subst hv
      exact ⟨cur, hh⟩
  obtain ⟨csA, hcsA⟩ := hbox a1 (by omega)
  obtain ⟨csE, hcsE⟩ := hbox e1 (by omega)
  refine ⟨gA, gE, rfl, rfl, hne, (row_one a1 hk).1, (row_one a1 hk).2, (row_one e1 hk).1, (row_one e1 hk).2, ga1, ga2, ge1, ge2, fun gx cs T hx hT => ⟨fun e => ?_, fun e => ?_⟩, fun p q w' hpq hp hq hz wp wq wA wE hw => ?_⟩
  · subst e; rw [hcsA] at hx; injection hx with hx; injection hx with _ hx; exact hT hx.symm
  · subst e; rw [hcsE] at hx; injection hx with hx; injection hx with _ hx; exact hT hx.symm
  · have hla : ys.length = t.n := by have := a1.1; omega
    have hle : zs.length = t.n := by have := e1.1; omega
    have oA : w'.ownsRow B 24 1 (.slice (some ⟨gA, 0, none⟩) t.n cA) t.n (ys.set k (.slice (some ⟨p, 0, none⟩) t.m t.m)) := row_keep (World.ownsRow.stored a1 k (.slice (some ⟨p, 0, none⟩) t.m t.m)).1 fun g _ hg _ => by
      obtain rfl : gA = g := Option.some.inj hg
      exact wA
    have oE : w'.ownsRow B 24 1 (.slice (some ⟨gE, 0, none⟩) t.n cE) t.n (zs.set k (.slice (some ⟨q, 0, none⟩) t.m t.m)) := row_keep (World.ownsRow.stored e1 k (.slice (some ⟨q, 0, none⟩) t.m t.m)).1 fun g _ hg _ => by
      obtain rfl : gE = g := Option.some.inj hg
      exact wE
    have hfk : ∀ i r, f i = some r → w'.heap[r.b]? = w.heap[r.b]? := fun i r hi => hw r.b (h.fam.lt hi).2 (fun e => own_box_ne (h.fam.own i r hi) hcsA (by decide) (by show some r.b = some gA; rw [e])) (fun e => own_box_ne (h.fam.own i r hi) hcsE (by decide) (by show some r.b = some gE; rw [e]))
    have f0 : Fam w' B f := h.fam.keep hfk
    have f1 := h.fam.put (i := 4 + 2 * k) (w' := w') (r := ⟨p, t.m, lst t.m (fun _ => 0)⟩) (by show Own w' B _ (lst t.m _).length t.m _; rw [lst_len]; exact own_heap wp (show B ≤ p by omega) (made_int _) (lst_len _ _) hm) fun j s _ hs => ⟨by have := (h.fam.lt hs).2; show s.b ≠ p; omega, hfk j s hs⟩
    have f2 := f1.put (i := 5 + 2 * k) (w' := w') (r := ⟨q, t.m, lst t.m (fun _ => 0)⟩) (by show Own w' B _ (lst t.m _).length t.m _; rw [lst_len]; exact own_heap wq (show B ≤ q by omega) (made_int _) (lst_len _ _) hm) fun j s _ hs => by
      by_cases e : j = 4 + 2 * k
      · subst e
        rw [upF_at] at hs
        obtain rfl := Option.some.inj hs
        exact ⟨hpq, rfl⟩
      · rw [upF_ne e] at hs
        exact ⟨by have := (h.fam.lt hs).2; show s.b ≠ q; omega, rfl⟩
    refine ⟨_, f2, (h.d.other (by omega)).other (by omega), (h.c.other (by omega)).other (by omega), ⟨_, oA, fun i hi => ?_⟩, ⟨_, oE, fun i hi => ?_⟩, h.ne⟩
    · rcases Nat.lt_or_ge i k with h1 | h1
      · obtain ⟨r, k1, k2, k3⟩ := a2 i h1
        exact ⟨r, by (try dsimp only); rw [upF_ne (by omega), upF_ne (by omega)]; exact k1, k2, by rw [List.getElem?_set_ne (by omega)]; exact k3⟩
      · obtain rfl : i = k := by omega
        exact ⟨⟨p, t.m, lst t.m (fun _ => 0)⟩, by (try dsimp only); rw [upF_ne (by omega), upF_at], lst_congr fun j _ => ((h0 j).1).symm, by rw [List.getElem?_set_self (by omega), lst_len]⟩
    · rcases Nat.lt_or_ge i k with h1 | h1
      · obtain ⟨r, k1, k2, k3⟩ := e2 i h1
        exact ⟨r, by (try dsimp only); rw [upF_ne (by omega), upF_ne (by omega)]; exact k1, k2, by rw [List.getElem?_set_ne (by omega)]; exact k3⟩
      · obtain rfl : i = k := by omega
        exact ⟨⟨q, t.m, lst t.m (fun _ => 0)⟩, upF_at, lst_congr fun j _ => ((h0 j).2).symm, by rw [List.getElem?_set_self (by omega), lst_len]⟩
end
end

section
open Go.RowKit Flo
set_option linter.unusedVariables false

theorem setCell_congr {w w' : World} {g k : Nat} {u : Value} (h : w'.heap[g]? = w.heap[g]?) : (w'.setCell ⟨g, k, none⟩ u).heap[g]? = (w.setCell ⟨g, k, none⟩ u).heap[g]? := by
  simp only [World.setCell]
  rw [Array.getElem?_modify, Array.getElem?_modify, if_pos rfl, if_pos rfl, h]
/-- What the three orders have in common. -/
def TwoRows (w W : World) (Z : Obj) (gA gE k p q : Nat) (u v : Value) : Prop := p ≠ q ∧ w.heap.size ≤ p ∧ w.heap.size ≤ q ∧ w.heap.size ≤ W.heap.size ∧ W.heap[p]? = some Z ∧ W.heap[q]? = some Z ∧ W.heap[gA]? = (w.setCell ⟨gA, k, none⟩ u).heap[gA]? ∧ W.heap[gE]? = (w.setCell ⟨gE, k, none⟩ v).heap[gE]? ∧ ∀ z, z < w.heap.size → z ≠ gA → z ≠ gE → W.heap[z]? = w.heap[z]?
section
variable {w : World} {Z : Obj} {gA gE k : Nat} {u v : Value}
theorem two_rows (hA : gA < w.heap.size) (hE : gE < w.heap.size) (hne : gA ≠ gE) : TwoRows w ((((w.alloc Z).alloc Z).setCell ⟨gA, k, none⟩ u).setCell ⟨gE, k, none⟩ v) Z gA gE k w.heap.size (w.alloc Z).heap.size u v ∧ TwoRows w ((((w.alloc Z).alloc Z).setCell ⟨gA, k, none⟩ u).setCell ⟨gE, k, none⟩ v) Z gA gE k (w.alloc Z).heap.size w.heap.size u v := by
  have b1 := below_new w Z
  have b2 := below_new (w.alloc Z) Z
  have s1 : (w.alloc Z).heap.size = w.heap.size + 1 := World.size_alloc _ _
  have s2 : ((w.alloc Z).alloc Z).heap.size = w.heap.size + 2 := by rw [World.size_alloc, s1]
  have hz : ((((w.alloc Z).alloc Z).setCell ⟨gA, k, none⟩ u).setCell ⟨gE, k, none⟩ v).heap.size = w.heap.size + 2 := by simp
  have old : ∀ z, z < w.heap.size → ((w.alloc Z).alloc Z).heap[z]? = w.heap[z]? := fun z h => (b2.block z (by omega)).trans (b1.block z h)
  have off : ∀ z, z ≠ gA → z ≠ gE → ((((w.alloc Z).alloc Z).setCell ⟨gA, k, none⟩ u).setCell ⟨gE, k, none⟩ v).heap[z]? = ((w.alloc Z).alloc Z).heap[z]? := fun z h1 h2 => (Below.heap_setCell _ ⟨gE, k, none⟩ v z h2).trans (Below.heap_setCell _ ⟨gA, k, none⟩ u z h1)
  have p1 : ((((w.alloc Z).alloc Z).setCell ⟨gA, k, none⟩ u).setCell ⟨gE, k, none⟩ v).heap[w.heap.size]? = some Z := by rw [off _ (by omega) (by omega), b2.block _ (by omega)]; exact heap_alloc_new w Z
  have p2 : ((((w.alloc Z).alloc Z).setCell ⟨gA, k, none⟩ u).setCell ⟨gE, k, none⟩ v).heap[(w.alloc Z).heap.size]? = some Z := by rw [off _ (by omega) (by omega)]; exact heap_alloc_new _ Z
  have pA : ((((w.alloc Z).alloc Z).setCell ⟨gA, k, none⟩ u).setCell ⟨gE, k, none⟩ v).heap[gA]? = (w.setCell ⟨gA, k, none⟩ u).heap[gA]? := (Below.heap_setCell _ ⟨gE, k, none⟩ v gA hne).trans (setCell_congr (old gA hA))
  have pE : ((((w.alloc Z).alloc Z).setCell ⟨gA, k, none⟩ u).setCell ⟨gE, k, none⟩ v).heap[gE]? = (w.setCell ⟨gE, k, none⟩ v).heap[gE]? := setCell_congr ((Below.heap_setCell _ ⟨gA, k, none⟩ u gE (Ne.symm hne)).trans (old gE hE))
  have pz : ∀ z, z < w.heap.size → z ≠ gA → z ≠ gE → ((((w.alloc Z).alloc Z).setCell ⟨gA, k, none⟩ u).setCell ⟨gE, k, none⟩ v).heap[z]? = w.heap[z]? := fun z h h1 h2 => (off z h1 h2).trans (old z h)
  exact ⟨⟨by omega, by omega, by omega, by omega, p1, p2, pA, pE, pz⟩, ⟨by omega, by omega, by omega, by omega, p2, p1, pA, pE, pz⟩⟩
theorem two_rows' (hA : gA < w.heap.size) (hE : gE < w.heap.size) (hne : gA ≠ gE) : TwoRows w ((((w.alloc Z).setCell ⟨gA, k, none⟩ u).alloc Z).setCell ⟨gE, k, none⟩ v) Z gA gE k w.heap.size ((w.alloc Z).setCell ⟨gA, k, none⟩ u).heap.size u v := by
  have b1 := below_new w Z
  have s1 : (w.alloc Z).heap.size = w.heap.size + 1 := World.size_alloc _ _
  have s1' : ((w.alloc Z).setCell ⟨gA, k, none⟩ u).heap.size = w.heap.size + 1 := by simp
  have b2 := below_new ((w.alloc Z).setCell ⟨gA, k, none⟩ u) Z
  have hz : ((((w.alloc Z).setCell ⟨gA, k, none⟩ u).alloc Z).setCell ⟨gE, k, none⟩ v).heap.size = w.heap.size + 2 := by simp
  refine ⟨by omega, by omega, by omega, by omega, ?_, ?_, ?_, ?_, fun z h h1 h2 => ?_⟩
  · rw [Below.heap_setCell _ ⟨gE, k, none⟩ v _ (show w.heap.size ≠ gE by omega), b2.block _ (by omega), Below.heap_setCell _ ⟨gA, k, none⟩ u _ (show w.heap.size ≠ gA by omega)]
    exact heap_alloc_new w Z
  · rw [Below.heap_setCell _ ⟨gE, k, none⟩ v _ (show _ ≠ gE by rw [s1']; omega)]
    exact heap_alloc_new _ Z
  · rw [Below.heap_setCell _ ⟨gE, k, none⟩ v gA hne, b2.block _ (by omega)]
    exact setCell_congr (b1.block _ hA)
  · exact setCell_congr ((b2.block _ (by omega)).trans ((Below.heap_setCell _ ⟨gA, k, none⟩ u gE (Ne.symm hne)).trans (b1.block _ hE)))
  · rw [Below.heap_setCell _ ⟨gE, k, none⟩ v z h2, b2.block _ (by omega), Below.heap_setCell _ ⟨gA, k, none⟩ u z h1, b1.block _ h]
end
section
variable {P : Program} {ops : Array Oper} {Q : Exit → Act → World → Prop} {md : Region.Mode} {S : World → Prop} {L k i j : Nat} {ls : Array Bool} {a : Act} {w : World}
theorem AnyE.two (hr : Region.ready md ops ls = [i, j]) (hi : wpOp P ops Q i (fun a' w' => (i ≠ L → S w') ∧ AnyE P md ops Q S L k (ls.setIfInBounds i true) a' w') a w) (hj : wpOp P ops Q j (fun a' w' => (j ≠ L → S w') ∧ AnyE P md ops Q S L k (ls.setIfInBounds j true) a' w') a w) : AnyE P md ops Q S L (k + 1) ls a w := by
  refine ⟨fun h0 => (by rw [hr] at h0; cases h0), fun z hz => ?_⟩
  rw [hr] at hz
  rcases List.mem_cons.1 hz with rfl | hz
  · exact hi
  · obtain rfl := List.mem_singleton.1 hz
    exact hj
theorem AnyE.one (hr : Region.ready md ops ls = [i]) (hi : wpOp P ops Q i (fun a' w' => (i ≠ L → S w') ∧ AnyE P md ops Q S L k (ls.setIfInBounds i true) a' w') a w) : AnyE P md ops Q S L (k + 1) ls a w := by
  refine ⟨fun h0 => (by rw [hr] at h0; cases h0), fun z hz => ?_⟩
  rw [hr] at hz
  obtain rfl := List.mem_singleton.1 hz
  exact hi
end
end

section
open Go.RowKit Flo
set_option linter.unusedVariables false

section
variable (n m : Nat) (b : Int) (x : Nat → Nat → Int)
def tA (i j : Nat) : Net where
  n := n + 1
  m := m + 1
  R := fun _ => 0
  C := fun _ => 0
  lo := fun u v => if (u < i ∨ (u = i ∧ v < j)) ∧ u < n ∧ v < m then dnV b (x u v) else 0
  hi := fun u v => if (u < i ∨ (u = i ∧ v < j)) ∧ u < n ∧ v < m then upV b (x u v) else 0
def tB (i : Nat) : Net where
  n := n + 1
  m := m + 1
  R := fun u => if u < i then upV b (rowS m x u) else 0
  C := fun _ => 0
  lo := fun u v => if u < n ∧ v < m then dnV b (x u v) else 0
  hi := fun u v => if u < n ∧ v < m then upV b (x u v) else if u < i ∧ v = m then upV b (rowS m x u) - dnV b (rowS m x u) else 0
def tC (j : Nat) : Net where
  n := n + 1
  m := m + 1
  R := fun u => if u < n then upV b (rowS m x u) else 0
  C := fun v => if v < j then upV b (colS n x v) else 0
  lo := fun u v => if u < n ∧ v < m then dnV b (x u v) else 0
  hi := fun u v => if u < n ∧ v < m then upV b (x u v) else if u < n ∧ v = m then upV b (rowS m x u) - dnV b (rowS m x u) else if u = n ∧ v < j then upV b (colS n x v) - dnV b (colS n x v) else 0
end
section
variable {n m : Nat} {b : Int} {x : Nat → Nat → Int} {w : World} {B : Nat} {f : Nat → Option Rw} {D C A E : Option Addr} {cD cC cA cE i j : Nat}
theorem netA_start (h : NetW w B f D C A E cD cC cA cE (n + 1) (zeroN (n + 1) (m + 1))) : NetW w B f D C A E cD cC cA cE (n + 1) (tA n m b x 0 0) :=
  h.fn rfl rfl (fun _ _ => rfl) (fun _ _ => rfl) (fun u v _ _ => by show (if _ then _ else _) = (0 : Int); rw [if_neg (by omega)]) (fun u v _ _ => by show (if _ then _ else _) = (0 : Int); rw [if_neg (by omega)]) (Nat.le_refl _)
theorem netA_step (hi : i < n) (hj : j < m) (h : NetW w B f D C A E cD cC cA cE (n + 1) (((tA n m b x i j).setLo i j (dnV b (x i j))).setHi i j (upV b (x i j)))) : NetW w B f D C A E cD cC cA cE (n + 1) (tA n m b x i (j + 1)) := by
  refine h.fn rfl rfl (fun _ _ => rfl) (fun _ _ => rfl) (fun u v _ _ => ?_) (fun u v _ _ => ?_) (Nat.le_refl _)
  · show (if (u < i ∨ (u = i ∧ v < j + 1)) ∧ u < n ∧ v < m then dnV b (x u v) else 0) = updM (tA n m b x i j).lo i j (dnV b (x i j)) u v
    unfold updM
    by_cases e : u = i ∧ v = j
    · obtain ⟨rfl, rfl⟩ := e
      rw [if_pos (by omega), if_pos ⟨rfl, rfl⟩]
    · rw [if_neg e]
      show _ = (if (u < i ∨ (u = i ∧ v < j)) ∧ u < n ∧ v < m then dnV b (x u v) else 0)
      by_cases e2 : (u < i ∨ (u = i ∧ v < j)) ∧ u < n ∧ v < m
      · rw [if_pos (by omega), if_pos e2]
      · rw [if_neg (by omega), if_neg e2]
  · show (if (u < i ∨ (u = i ∧ v < j + 1)) ∧ u < n ∧ v < m then upV b (x u v) else 0) = updM (tA n m b x i j).hi i j (upV b (x i j)) u v
    unfold updM
    by_cases e : u = i ∧ v = j
    · obtain ⟨rfl, rfl⟩ := e
      rw [if_pos (by omega), if_pos ⟨rfl, rfl⟩]
    · rw [if_neg e]
      show _ = (if (u < i ∨ (u = i ∧ v < j)) ∧ u < n ∧ v < m then upV b (x u v) else 0)
      by_cases e2 : (u < i ∨ (u = i ∧ v < j)) ∧ u < n ∧ v < m
      · rw [if_pos (by omega), if_pos e2]
      · rw [if_neg (by omega), if_neg e2]
theorem netA_row (h : NetW w B f D C A E cD cC cA cE (n + 1) (tA n m b x i m)) : NetW w B f D C A E cD cC cA cE (n + 1) (tA n m b x (i + 1) 0) := by
  refine h.fn rfl rfl (fun _ _ => rfl) (fun _ _ => rfl) (fun u v _ _ => ?_) (fun u v _ _ => ?_) (Nat.le_refl _)
  all_goals
    show (if (u < i + 1 ∨ (u = i + 1 ∧ v < 0)) ∧ u < n ∧ v < m then _ else 0) = (if (u < i ∨ (u = i ∧ v < m)) ∧ u < n ∧ v < m then _ else 0)
    by_cases e2 : (u < i ∨ (u = i ∧ v < m)) ∧ u < n ∧ v < m
    · rw [if_pos (by omega), if_pos e2]
    · rw [if_neg (by omega), if_neg e2]
theorem netB_start (h : NetW w B f D C A E cD cC cA cE (n + 1) (tA n m b x n 0)) : NetW w B f D C A E cD cC cA cE (n + 1) (tB n m b x 0) := by
  refine h.fn rfl rfl (fun u _ => by show (if u < 0 then upV b (rowS m x u) else 0) = (0 : Int); rw [if_neg (by omega)]) (fun _ _ => rfl) (fun u v _ _ => ?_) (fun u v _ _ => ?_) (Nat.le_refl _)
  · show (if u < n ∧ v < m then dnV b (x u v) else 0) = (if (u < n ∨ (u = n ∧ v < 0)) ∧ u < n ∧ v < m then dnV b (x u v) else 0)
    by_cases e : u < n ∧ v < m
    · rw [if_pos e, if_pos (by omega)]
    · rw [if_neg e, if_neg (by omega)]
  · show (if u < n ∧ v < m then upV b (x u v) else if u < 0 ∧ v = m then _ else 0) = (if (u < n ∨ (u = n ∧ v < 0)) ∧ u < n ∧ v < m then upV b (x u v) else 0)
    by_cases e : u < n ∧ v < m
    · rw [if_pos e, if_pos (by omega)]
    · rw [if_neg e, if_neg (by omega), if_neg (by omega)]
theorem netB_step (hi : i < n) (h : NetW w B f D C A E cD cC cA cE (n + 1) (((tB n m b x i).setR i (upV b (rowS m x i))).setHi i m (upV b (rowS m x i) - dnV b (rowS m x i)))) : NetW w B f D C A E cD cC cA cE (n + 1) (tB n m b x (i + 1)) := by
  refine h.fn rfl rfl (fun u _ => ?_) (fun _ _ => rfl) (fun u v _ _ => rfl) (fun u v _ _ => ?_) (Nat.le_refl _)
  · show (if u < i + 1 then upV b (rowS m x u) else 0) = (if u = i then upV b (rowS m x i) else (if u < i then upV b (rowS m x u) else 0))
    by_cases e : u = i
    · subst e; rw [if_pos (by omega), if_pos rfl]
    · rw [if_neg e]
      by_cases e2 : u < i
      · rw [if_pos (by omega), if_pos e2]
      · rw [if_neg (by omega), if_neg e2]
  · show (tB n m b x (i + 1)).hi u v = updM (tB n m b x i).hi i m (upV b (rowS m x i) - dnV b (rowS m x i)) u v
    unfold updM
    by_cases e : u = i ∧ v = m
    · obtain ⟨rfl, rfl⟩ := e
      rw [if_pos ⟨rfl, rfl⟩]
      show (if u < n ∧ v < v then _ else if u < u + 1 ∧ v = v then _ else 0) = _
      rw [if_neg (by omega), if_pos (by omega)]
    · rw [if_neg e]
      show (if u < n ∧ v < m then _ else if u < i + 1 ∧ v = m then _ else 0) = (if u < n ∧ v < m then _ else if u < i ∧ v = m then _ else 0)
      by_cases e1 : u < n ∧ v < m
      · rw [if_pos e1, if_pos e1]
      · rw [if_neg e1, if_neg e1]
        by_cases e2 : u < i ∧ v = m
        · rw [if_pos (by omega), if_pos e2]
        · rw [if_neg (by omega), if_neg e2]
theorem netC_start (h : NetW w B f D C A E cD cC cA cE (n + 1) (tB n m b x n)) : NetW w B f D C A E cD cC cA cE (n + 1) (tC n m b x 0) := by
  refine h.fn rfl rfl (fun u _ => rfl) (fun v _ => by show (if v < 0 then upV b (colS n x v) else 0) = (0 : Int); rw [if_neg (by omega)]) (fun u v _ _ => rfl) (fun u v _ _ => ?_) (Nat.le_refl _)
  show (if u < n ∧ v < m then _ else if u < n ∧ v = m then _ else if u = n ∧ v < 0 then _ else 0) = (if u < n ∧ v < m then _ else if u < n ∧ v = m then _ else 0)
  by_cases e1 : u < n ∧ v < m
  · rw [if_pos e1, if_pos e1]
  · rw [if_neg e1, if_neg e1]
    by_cases e2 : u < n ∧ v = m
    · rw [if_pos e2, if_pos e2]
    · rw [if_neg e2, if_neg e2, if_neg (by omega)]
theorem netC_step (hj : j < m) (h : NetW w B f D C A E cD cC cA cE (n + 1) (((tC n m b x j).setC j (upV b (colS n x j))).setHi n j (upV b (colS n x j) - dnV b (colS n x j)))) : NetW w B f D C A E cD cC cA cE (n + 1) (tC n m b x (j + 1)) := by
  refine h.fn rfl rfl (fun _ _ => rfl) (fun v _ => ?_) (fun u v _ _ => rfl) (fun u v _ _ => ?_) (Nat.le_refl _)
  · show (if v < j + 1 then upV b (colS n x v) else 0) = (if v = j then upV b (colS n x j) else (if v < j then upV b (colS n x v) else 0))
    by_cases e : v = j
    · subst e; rw [if_pos (by omega), if_pos rfl]
    · rw [if_neg e]
      by_cases e2 : v < j
      · rw [if_pos (by omega), if_pos e2]
      · rw [if_neg (by omega), if_neg e2]
  · show (tC n m b x (j + 1)).hi u v = updM (tC n m b x j).hi n j (upV b (colS n x j) - dnV b (colS n x j)) u v
    unfold updM
    by_cases e : u = n ∧ v = j
    · obtain ⟨rfl, rfl⟩ := e
      rw [if_pos ⟨rfl, rfl⟩]
      show (if u < u ∧ v < m then _ else if u < u ∧ v = m then _ else if u = u ∧ v < v + 1 then _ else 0) = _
      rw [if_neg (by omega), if_neg (by omega), if_pos (by omega)]
    · rw [if_neg e]
      show (if u < n ∧ v < m then _ else if u < n ∧ v = m then _ else if u = n ∧ v < j + 1 then _ else 0) = (if u < n ∧ v < m then _ else if u < n ∧ v = m then _ else if u = n ∧ v < j then _ else 0)
      by_cases e1 : u < n ∧ v < m
      · rw [if_pos e1, if_pos e1]
      · rw [if_neg e1, if_neg e1]
        by_cases e2 : u < n ∧ v = m
        · rw [if_pos e2, if_pos e2]
        · rw [if_neg e2, if_neg e2]
          by_cases e3 : u = n ∧ v < j
          · rw [if_pos (by omega), if_pos e3]
          · rw [if_neg (by omega), if_neg e3]
theorem netZ (h : NetW w B f D C A E cD cC cA cE (n + 1) ((((tC n m b x m).setHi n m (upV b (totS n m x) - dnV b (totS n m x))).setR n (sm m (fun j => upV b (colS n x j)) - dnV b (totS n m x))).setC m (sm n (fun i => upV b (rowS m x i)) - dnV b (totS n m x)))) : NetW w B f D C A E cD cC cA cE (n + 1) (netOf n m b x) := by
  refine h.fn rfl rfl (fun u hu => ?_) (fun v hv => ?_) (fun u v _ _ => rfl) (fun u v hu hv => ?_) (Nat.le_refl _)
  · have hu : u < n + 1 := hu
    show (if u < n then upV b (rowS m x u) else _) = (if u = n then _ else (if u < n then upV b (rowS m x u) else 0))
    by_cases e : u = n
    · rw [if_pos e, if_neg (by omega)]
    · rw [if_neg e, if_pos (by omega), if_pos (by omega)]
  · have hv : v < m + 1 := hv
    show (if v < m then upV b (colS n x v) else _) = (if v = m then _ else (if v < m then upV b (colS n x v) else 0))
    by_cases e : v = m
    · rw [if_pos e, if_neg (by omega)]
    · rw [if_neg e, if_pos (by omega), if_pos (by omega)]
  · have hu : u < n + 1 := hu
    have hv : v < m + 1 := hv
    show (netOf n m b x).hi u v = updM (tC n m b x m).hi n m (upV b (totS n m x) - dnV b (totS n m x)) u v
    unfold updM
    show (if u < n ∧ v < m then upV b (x u v) else if u < n then _ else if v < m then _ else _) = (if u = n ∧ v = m then _ else (if u < n ∧ v < m then upV b (x u v) else if u < n ∧ v = m then _ else if u = n ∧ v < m then _ else 0))
    by_cases e1 : u < n ∧ v < m
    · rw [if_pos e1, if_neg (by omega), if_pos e1]
    · rw [if_neg e1, if_neg e1]
      by_cases e2 : u < n
      · rw [if_pos e2, if_neg (by omega), if_pos (by omega)]
      · rw [if_neg e2]
        by_cases e3 : v < m
        · rw [if_pos e3, if_neg (by omega), if_neg (by omega), if_pos (by omega)]
        · rw [if_neg e3, if_pos (by omega)]
end
theorem ints_less {w : World} {A : Option Addr} {n : Nat} {g g' : Nat → Int} (h : Ints w A (n + 1) (lst (n + 1) g)) (he : ∀ u, u < n → g' u = g u) : Ints w A n (lst n g') := by
  rw [lst_congr he]
  refine ⟨lst_len _ _, fun hn => ?_⟩
  obtain ⟨ad, e, hc⟩ := h.2 (by omega)
  refine ⟨ad, e, fun j hj => ?_⟩
  have := hc j (by omega)
  rw [lst_get (by omega)] at this
  rw [lst_get hj]
  exact this
section
variable {n m : Nat} {b : Int} {x : Nat → Nat → Int}
theorem up_col (h : MxB n m b x) {j : Nat} (hj : j < m) : 0 ≤ upV b (colS n x j) ∧ upV b (colS n x j) ≤ 70000 := by
  have h1 := h.sums.2.1 j hj
  have h2 := dnV_bd h.b2 h1.1
  omega
theorem up_row (h : MxB n m b x) {i : Nat} (hi : i < n) : 0 ≤ upV b (rowS m x i) ∧ upV b (rowS m x i) ≤ 70000 := by
  have h1 := h.sums.1 i hi
  have h2 := dnV_bd h.b2 h1.1
  omega
theorem sumC : sm (m + 1) (tC n m b x m).C = sm m (fun j => upV b (colS n x j)) := by
  rw [sm_succ]
  have e : (tC n m b x m).C m = 0 := if_neg (by omega)
  have e2 : sm m (tC n m b x m).C = sm m (fun j => upV b (colS n x j)) := sm_congr fun k hk => if_pos hk
  rw [e, e2]
  omega
theorem sumC_bd (h : MxB n m b x) (k : Nat) : 0 ≤ (tC n m b x m).C k ∧ (tC n m b x m).C k ≤ 1000000000 := by
  show 0 ≤ (if k < m then upV b (colS n x k) else 0) ∧ (if k < m then upV b (colS n x k) else 0) ≤ 1000000000
  by_cases e : k < m
  · rw [if_pos e]; have := up_col h e; omega
  · rw [if_neg e]; omega
theorem sumC_b (h : MxB n m b x) : 0 ≤ sm m (fun j => upV b (colS n x j)) ∧ sm m (fun j => upV b (colS n x j)) ≤ 490000 := by
  have h1 := sm_bd (n := m) (f := fun j => upV b (colS n x j)) (b := 70000) (fun k hk => up_col h hk)
  have h2 := h.m7
  omega
theorem sumR : sm n (fun u => if u < n then upV b (rowS m x u) else 0) = sm n (fun i => upV b (rowS m x i)) := sm_congr fun k hk => if_pos hk
theorem sumR_bd (h : MxB n m b x) (k : Nat) : 0 ≤ (if k < n then upV b (rowS m x k) else 0) ∧ (if k < n then upV b (rowS m x k) else 0) ≤ 1000000000 := by
  by_cases e : k < n
  · rw [if_pos e]; have := up_row h e; omega
  · rw [if_neg e]; omega
theorem sumR_b (h : MxB n m b x) : 0 ≤ sm n (fun i => upV b (rowS m x i)) ∧ sm n (fun i => upV b (rowS m x i)) ≤ 490000 := by
  have h1 := sm_bd (n := n) (f := fun i => upV b (rowS m x i)) (b := 70000) (fun k hk => up_row h hk)
  have h2 := h.n7
  omega
end
end
end Go.Proofs.Ytcjmapdeopffcaa
