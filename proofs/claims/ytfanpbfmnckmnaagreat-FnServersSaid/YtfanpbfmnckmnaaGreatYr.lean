/- Several small texts in one: AppZ, DgI. -/
import Derived.Test.YtfanpbfmnckmnaaGreatYq
import Derived.Lib.AppendZeros
namespace Go.Proofs.YtfanpbfmnckmnaaGreat

section
open Go.RowKit

theorem zero_cells (m : Nat) : Builtin.zeroCells (Value.cells (.int .i64 0)) m = ((List.replicate m (0 : Int)).map (Value.int .i64)).toArray := by
  have h1 : (Value.cells (.int .i64 0)) = #[.int .i64 0] := rfl
  rw [h1]
  unfold Builtin.zeroCells
  apply Array.ext'
  rw [Array.toList_map, Array.toList_range]
  apply List.ext_getElem
  · simp
  · intro i h2 h3
    simp [Nat.mod_one]

set_option maxRecDepth 100000 in
theorem run_appZ {w : World} {B g n c m : Nat} {xs : List Int} (ty : TypeId) (h : Own w B (some ⟨g, 0, none⟩) n c xs) (hm : 0 < m) (hsz : n + m ≤ 1099511627776) (hB : B ≤ w.heap.size) :
    ∃ A2 c2 w', (Builtin.append_ #[22, 3] ty #[.slice (some ⟨g, 0, none⟩) n c, .int .i64 m]).run Tryz.prog w = .ok (.slice A2 (n + m) c2) w' ∧ Own w' B A2 (n + m) c2 (xs ++ List.replicate m 0) ∧ w.grownBy w' (some g) ∧ (rowOf A2 = some g ∨ rowOf A2 = some w.heap.size) := by
  obtain ⟨i0, hi, hz0, hz1, hz2⟩ := info_parts Tryz.infoInt
  have ht := Tryz.underlying22
  have htn := Tryz.underlying3
  have hl : (xs.map (Value.int .i64)).length = n * 1 := h.1
  have hw : IntKind.i64.wrap (m : Int) = m := by rw [IntKind.wrap_i64]; omega
  have hneg : ¬ ((m : Int) < 0) := by omega
  have hz : i0.zero = some (.int .i64 0) := hz0
  have h48i : ¬ (281474976710656 < (m : Int) * (i0.bytes : Int)) := by rw [hz2]; omega
  have hm0 : m ≠ 0 := by omega
  have hZ := zero_cells m
  have hone := oneCells (List.replicate m 0)
  have hln : ((List.replicate m (0 : Int)).map (Value.int .i64)).length = m := by simp
  rcases h.2 with ⟨h1, _⟩ | ⟨g', cap, cur, hv, hb, hg, hnc, hcm, hcs, htk⟩
  · injection h1 with h1; cases h1
  · simp only [Value.slice.injEq, Option.some.injEq, Addr.mk.injEq, and_true, true_and] at hv
    obtain ⟨rfl, rfl⟩ := hv
    rw [Nat.mul_one] at hcs htk
    by_cases hroom : n + m ≤ c
    · have hst := run_storeCells_at Tryz.prog g n 3 ((List.replicate m (0 : Int)).map (Value.int .i64)) 0 cur w hg (by rw [hln]; omega) hone
      simp only [Nat.add_zero] at hst
      refine ⟨some ⟨g, 0, none⟩, c, w.setRow g (cur.toList.take n ++ (List.replicate m (0 : Int)).map (Value.int .i64) ++ cur.toList.drop (n + ((List.replicate m (0 : Int)).map (Value.int .i64)).length)).toArray, ?_, ⟨by simp [h.len], .inr ⟨g, c, _, rfl, hb, setRow_heap w g cur _ _ _ hg, hroom, hcm, ?_, ?_⟩⟩, ⟨rfl, rfl, rfl, by simp, fun k _ hk => setRow_other w g k _ (fun e => hk (by rw [e]))⟩, .inl rfl⟩
      · have hst3 := hst
        simp only [List.map_replicate, List.length_replicate, List.append_assoc] at hst3
        simp [Builtin.append_, run_underlying ht, run_underlying htn, sizeOf, typeInfo, zeroValue, hi, hz, asInt, asIntOf, hw, hm0, hneg, hz1, h48i, hroom, Addr.add_lit, hZ, hst3]
      · rw [hln, Nat.mul_one]
        simp only [List.size_toArray, List.length_append, List.length_take, List.length_drop, Array.length_toList, hln]
        omega
      · rw [Nat.mul_one, List.map_append, htk]
        have : (xs.map (Value.int .i64) ++ (List.replicate m (0 : Int)).map (Value.int .i64)).length = n + m := by rw [List.length_append, hl, hln]; omega
        rw [← this]
        exact List.take_left
    · have hgc := grownCap_ge w (n + m) c 3
      have hgm : grownCap w (n + m) c 3 ≤ maxLen := grownCap_le_maxLen w (n + m) c 3 (by unfold maxLen; omega)
      have h63' : ¬ (9223372036854775807 < ((n : Int) + (m : Int))) := by omega
      have h48' : ¬ (281474976710656 < Builtin.nextslicecap (n + m) c * i0.bytes) := by
        have := growslice_fits (need := n + m) (old := c) (bytes := i0.bytes) (by omega) (by rw [hz2]; omega)
        omega
      have holds : ∀ j u, (xs.map (Value.int .i64))[j]? = some u → w.cell? ((⟨g, 0, none⟩ : Addr).add j) = some u := World.ownsRow.cells h rfl
      have hfo := run_firstCells_some (P := Tryz.prog) w.drew 1 n ⟨g, 0, none⟩ n c (xs.map (Value.int .i64)) hl (by simpa using holds)
      refine ⟨some ⟨w.heap.size, 0, none⟩, grownCap w (n + m) c 3, w.drew.alloc (.cells ((xs.map (Value.int .i64)).toArray ++ Builtin.zeroCells (Value.cells (.int .i64 0)) m ++ Builtin.zeroCells (Value.cells (.int .i64 0)) (grownCap w (n + m) c 3 - (n + m))) 3), ?_, ⟨by simp [h.len], .inr ⟨w.heap.size, _, _, rfl, hB, heap_alloc_new w.drew _, hgc, hgm, ?_, ?_⟩⟩, ⟨rfl, rfl, rfl, by simp, fun k hk _ => heap_alloc_old w.drew _ hk⟩, .inr rfl⟩
      · have hroom' : ¬ (n + m ≤ c) := hroom
        simp [Builtin.append_, run_underlying ht, run_underlying htn, sizeOf, typeInfo, zeroValue, hi, hz, asInt, asIntOf, hw, hm0, hneg, hz1, h48i, hroom', h63', h48', Question.forced, hfo, newRow, grownCap]
      · rw [hZ, zero_cells]
        simp [h.len]
        omega
      · rw [hZ, Nat.mul_one, List.map_append]
        simp only [Array.toList_append, List.append_assoc]
        rw [← List.append_assoc]
        have : (xs.map (Value.int .i64) ++ (List.replicate m (0 : Int)).map (Value.int .i64)).length = n + m := by rw [List.length_append, hl, hln]; omega
        rw [← this]
        exact List.take_left
/-- At a step of a region that draws its order. -/
theorem step_appZ {wr : World} {ops : Array Oper} {o : Oper} {a : Act} {K : Act → World → Prop} {Q : Exit → Act → World → Prop} {E : Prop} (hgd : o.guard = none) (s x : Operand)
    (ho : o.op = .call { callee := .builtin .append, args := #[s, x], argTypes := #[22, 3] })
    (B g n c m : Nat) (xs : List Int) (hs : a.eval s = .slice (some ⟨g, 0, none⟩) n c) (hown : Own wr B (some ⟨g, 0, none⟩) n c xs) (hx : a.eval x = .int .i64 m) (hm : 0 < m) (hsz : n + m ≤ 1099511627776) (hB : B ≤ wr.heap.size)
    (h : ∀ A2 c2 w', Own w' B A2 (n + m) c2 (xs ++ List.replicate m 0) → wr.grownBy w' (some g) → (rowOf A2 = some g ∨ rowOf A2 = some wr.heap.size) → K (a.put o.dst (.slice A2 (n + m) c2)) w') :
    if Region.wanted o (yielded ops a.tmps) = true then Oper.wp Tryz.prog o a wr K Q else E := by
  have hw : Region.wanted o (yielded ops a.tmps) = true := by simp [Region.wanted, hgd]
  rw [if_pos hw]
  obtain ⟨A2, c2, w', hr, h1, h2, h3⟩ := run_appZ (m := m) o.type hown hm hsz hB
  exact Lib.wp_append_run wr s x _ _ ho _ _ hs hx _ _ hr (h A2 c2 w' h1 h2 h3)
end

section
open Go.RowKit

/-- A drawn geography while it is spoilt: the box at b, the result's box at a. -/
structure GeT (w0 w : World) (g L a b : Nat) (P : Option Addr) (n c : Nat) (ps : List Int) : Prop where
  cu : Cur w g L
  ch : Chg g (g + 1) w0 w
  own : Own w w0.heap.size P n c ps
  bx : w.heap[b]? = some (.cells #[.slice P n c] 36 (0, 0))
  rx : w.heap[a]? = some (.cells #[.slice none 0 0] 36 (0, 0))
  ab : w0.heap.size ≤ a ∧ a < b
section
variable {w0 w w' : World} {g L L' a b : Nat} {P : Option Addr} {n c : Nat} {ps : List Int}
theorem GeT.chg (h : GeT w0 w g L a b P n c ps) (hg : g < w0.heap.size) (hc : Cur w' g L') (hx : Chg g (g + 1) w w') : GeT w0 w' g L' a b P n c ps :=
  ⟨hc, h.ch.trans hx, h.own.keep fun k hk hl => hx.block k hl (.inr (by have := (h.own.row_ge k (by rw [hk]; rfl)).1; omega)), box_chg h.bx hx (by have := h.ab; omega), box_chg h.rx hx (by have := h.ab; omega), h.ab⟩
theorem GeT.below (h : GeT w0 w g L a b P n c ps) (hb : Below w.heap.size w w') : GeT w0 w' g L a b P n c ps :=
  ⟨h.cu.below hb, h.ch.then_ hb, h.own.below hb, bxb h.bx hb, bxb h.rx hb, h.ab⟩
theorem GeT.grow {P2 : Option Addr} {n2 c2 : Nat} {qs : List Int} (h : GeT w0 w g L a b P n c ps) (hg : g < w0.heap.size) (hw : w.grownBy w' (rowOf P)) (ho : Own w' w0.heap.size P2 n2 c2 qs) :
    GeT w0 (w'.setCell ⟨b, 0, none⟩ (.slice P2 n2 c2)) g L a b P2 n2 c2 qs := by
  have hr : ∀ j, rowOf P = some j → w0.heap.size ≤ j := fun j hj => (h.own.row_ge j hj).1
  have hb := h.ab
  have x1 := box_app2 h.bx hw (own_ne h.own h.bx (by decide))
  have x2 := box_app2 h.rx hw (own_ne h.own h.rx (by decide))
  have c1 := cur_app h.cu hw (fun j hj => by have := hr j hj; omega)
  have g1 := chg_app h.ch hw hr
  refine ⟨c1.far (by show g < b; omega) _, g1.setNewD (by show w0.heap.size ≤ b; omega) _, ?_, box_set x1 0 _, box_off x2 (by show a ≠ b; omega) _, hb⟩
  refine ho.keep fun k hk _ => Below.heap_setCell w' ⟨b, 0, none⟩ _ k ?_
  rintro rfl
  exact own_ne ho x1 (by decide) (by rw [hk]; rfl)
theorem GeT.setP {gp i : Nat} {y : Int} (h : GeT w0 w g L a b (some ⟨gp, 0, none⟩) n c ps) (hg : g < w0.heap.size) : GeT w0 (w.setCell ⟨gp, i, none⟩ (.int .i64 y)) g L a b (some ⟨gp, 0, none⟩) n c (ps.set i y) := by
  have hgp := (h.own.row_ge gp rfl).1
  exact ⟨h.cu.far (by show g < gp; omega) _, h.ch.setNewD (by show w0.heap.size ≤ gp; omega) _, h.own.set, box_off h.bx (by rintro rfl; exact own_ne h.own h.bx (by decide) rfl) _, box_off h.rx (by rintro rfl; exact own_ne h.own h.rx (by decide) rfl) _, h.ab⟩
theorem GeT.quit (h : GeT w0 w g L a b P n c ps) (hg : g < w0.heap.size) (hn : n ≤ 1000) : OwnI (w.setCell ⟨a, 0, none⟩ (.slice P n c)) w0.heap.size (w.setCell ⟨a, 0, none⟩ (.slice P n c)).heap.size P n c ps ∧ Cur (w.setCell ⟨a, 0, none⟩ (.slice P n c)) g L ∧ Chg g (g + 1) w0 (w.setCell ⟨a, 0, none⟩ (.slice P n c)) :=
  ⟨OwnI.of_own (h.own.keep fun k hk _ => Below.heap_setCell w ⟨a, 0, none⟩ _ k (by
    rintro rfl
    exact own_ne h.own h.rx (by decide) (by rw [hk]; rfl))) (by omega), h.cu.far (by show g < a; have := h.ab; omega) _, h.ch.setNewD (by show w0.heap.size ≤ a; exact h.ab.1) _⟩
end
/-- A drawn geography as a result. -/
def DGeo (g L : Nat) (w : World) (e : Ending) (w' : World) : Prop := ∃ (P : Option Addr) (n c : Nat) (ps : List Int), e = .returned (.agg #[.slice P n c]) ∧ n ≤ 31 ∧ OwnI w' w.heap.size w'.heap.size P n c ps ∧ Cur w' g L ∧ Chg g (g + 1) w w'

set_option maxRecDepth 100000 in
set_option maxHeartbeats 4000000 in
theorem anyGeo_any (g L : Nat) (w : World) (h : Cur w g L) (hL : L ≤ 400000) :
    Calls Tryz.prog 155 #[.pointer (some ⟨g, 0, none⟩)] w (DGeo g (L + 20) w) := by
  have hlt := h.lt
  have b0 := below_new w (.cells #[.slice none 0 0] 36)
  have xr := box_new w #[.slice none 0 0] 36
  have hc0 := h.below b0
  have hG0 : Chg g (g + 1) w (w.alloc (.cells #[.slice none 0 0] 36)) := Chg.of_below b0
  have z0 : w.heap.size < (w.alloc (.cells #[.slice none 0 0] 36)).heap.size := by simp
  clear h b0
  go_enter Tryz.func155, Tryz.ntmps155
  go_wp2_with fail
  generalize w.alloc (.cells #[.slice none 0 0] 36) = w1 at *
  refine (geoD_any g _ _ hc0 (by omega)).mono ?_
  rintro e w2 ⟨P, n, c, ps, rfl, hn11, hgo, o2, hc2, hg2⟩
  have z2 := hg2.size
  have hn1 : 1 ≤ n := by
    have h1 := (geoB_of hgo.out).pos
    have h2 := o2.own.len
    omega
  have b3 := below_new w2 (.cells #[.slice P n c] 36)
  have hS3 : GeT w (w2.alloc (.cells #[.slice P n c] 36)) g (L + 12) w.heap.size w2.heap.size P n c ps := ⟨hc2.below b3, (hG0.trans hg2).then_ b3, (o2.own.mono (by omega)).below b3, box_new _ _ _, bxb (box_chg xr hg2 (by omega)) b3, by omega⟩
  clear hc0 hG0 xr hc2 hg2 b3 o2 hgo
  go_wp2_with fail
  generalize w2.alloc (.cells #[.slice P n c] 36) = w3 at *
  refine (pick_any g _ _ _ hS3.cu (by omega) (by omega)).mono ?_
  rintro e w4 ⟨v, rfl, v0, v1, hc4, hg4⟩
  have S4 := Lib.hid (hS3.chg hlt hc4 hg4)
  clear hS3 hc4 hg4 v0 v1
  by_cases t0 : v = 0
  · subst t0
    obtain ⟨gp, rfl, hgp, _⟩ := S4.out.own.head (by omega)
    have S5 := Lib.hid (S4.out.setP (i := 0) (y := 0) hlt)
    have e0 := bxc S4.out.bx 0 _ rfl
    obtain ⟨gp', hu', _, _, q2, q3⟩ := S4.out.own.at_ (k := 0) (by omega)
    obtain rfl : gp' = gp := by injection hu' with hu'; injection hu' with hu'; exact hu'.symm
    clear hu'
    have R1 := Lib.hid (S5.out.quit hlt (by omega))
    have rr := S5.out.rx
    have bb := S5.out.bx
    have p0 := bxc rr 0 _ rfl
    have f0 := bxf rr 0
    have i0 := bxc bb 0 (.slice (some ⟨gp', 0, none⟩) (n) c) rfl
    have r0 := bxc (box_set rr 0 (.slice (some ⟨gp', 0, none⟩) (n) c)) 0 (.slice (some ⟨gp', 0, none⟩) (n) c) rfl
    clear rr bb
    go_wp2
    exact bodyPost_ret (v := .agg #[.slice (some ⟨gp', 0, none⟩) (n) c]) (by simp [results, Tryz.results155, go_sem, r0]) rfl ⟨_, _, _, _, rfl, by omega, R1.out.1, R1.out.2.1.mono (by omega), R1.out.2.2⟩
  · have t0E : (v == 0) = false := by rw [beq_eq_false_iff_ne]; exact t0
    by_cases t1 : v = 1
    · subst t1
      have b6 := below_new w4 (.cells #[.int .i64 (-1), .int .i64 n, .int .i64 0] 3)
      have S6a := S4.out.below b6
      have hcd : Cur (w4.alloc (.cells #[.int .i64 (-1), .int .i64 n, .int .i64 0] 3)).drew g (L + 12 + 2) := S6a.cu
      have S6 := Lib.hid (S6a.chg hlt hcd (Chg.of_below (Below.refl _ _).drew))
      have o6 : OwnI (w4.alloc (.cells #[.int .i64 (-1), .int .i64 n, .int .i64 0] 3)).drew w4.heap.size (w4.heap.size + 1) (some ⟨w4.heap.size, 0, none⟩) 3 3 [-1, (n : Int), 0] := own_lit [-1, (n : Int), 0] (box_new w4 _ _) (by simp)
      have lt6 : g < w4.heap.size := Nat.lt_of_lt_of_le hlt S4.out.ch.size
      have e0 : w4.cell? ⟨w2.heap.size, 0, none⟩ = some (.slice P n c) := bxc S4.out.bx 0 _ rfl
      have e6 : (w4.alloc (.cells #[.int .i64 (-1), .int .i64 n, .int .i64 0] 3)).cell? ⟨w2.heap.size, 0, none⟩ = some (.slice P n c) := bxc S6a.bx 0 _ rfl
      have hpk := Lib.hid (amongM_any g _ _ _ _ _ _ [-1, (n : Int), 0] _ hcd (by omega) o6 (by omega) (by omega) (by omega))
      clear S6a b6
      go_wp2_with fail
      go_region_law ((first | (go_simp; go_at_call 86; refine hpk.out.mono ?_; rintro e w7 ⟨y, rfl, hym, hc7, hg7⟩; have S7 := Lib.hid (S6.out.chg hlt hc7 hg7); have q0 : w7.cell? ⟨w2.heap.size, 0, none⟩ = some (.slice P n c) := bxc S7.out.bx 0 _ rfl; have q5 : (w7.alloc (.cells #[.int .i64 y] 3)).cell? ⟨w2.heap.size, 0, none⟩ = some (.slice P n c) := bxc (bxb S7.out.bx (below_new _ _)) 0 _ rfl; have q1 := bxf S7.out.bx 0; have hz7 := hg7.size; have o7 := S7.out.own; have hB7 : w.heap.size ≤ w7.heap.size := S7.out.ch.size; dsimp only) | (refine step_app1 (by rfl) _ _ (by rfl) w.heap.size P n c ps (by rfl) (by exact o7) _ (by rfl) (by rfl) (by omega) (by omega) ?_; intro A3 c3 w9 own9 grow9 _; have S9 := Lib.hid (S7.out.grow hlt grow9 own9); have q2 : w9.cell? ⟨w2.heap.size, 0, none⟩ = some (.slice P n c) := bxc (box_app2 S7.out.bx grow9 (own_ne o7 S7.out.bx (by decide))) 0 _ rfl; have q3 := bxf (box_app2 S7.out.bx grow9 (own_ne o7 S7.out.bx (by decide))) 0)))
      all_goals (clear q0 q1 q2 q3 q5 o7 own9 grow9 hz7 hB7 hc7 hg7 hym e0 e6 hpk o6 hcd)
      all_goals (have R2 := Lib.hid (S9.out.quit hlt (by omega)); have rr := S9.out.rx; have bb := S9.out.bx; have p0 := bxc rr 0 _ rfl; have f0 := bxf rr 0; have i0 := bxc bb 0 (.slice A3 (n + 1) c3) rfl; have r0 := bxc (box_set rr 0 (.slice A3 (n + 1) c3)) 0 (.slice A3 (n + 1) c3) rfl; clear rr bb)
      all_goals go_wp2
      all_goals exact bodyPost_ret (v := .agg #[.slice A3 (n + 1) c3]) (by simp [results, Tryz.results155, go_sem, r0]) rfl ⟨_, _, _, _, rfl, by omega, R2.out.1, R2.out.2.1.mono (by omega), R2.out.2.2⟩
    · have t1E : (v == 1) = false := by rw [beq_eq_false_iff_ne]; exact t1
      by_cases t2 : v = 2
      · subst t2
        have rr := S4.out.rx
        have p0 := bxc rr 0 _ rfl
        have f0 := bxf rr 0
        have r0 := bxc (box_set rr 0 (.slice none 0 0)) 0 (.slice none 0 0) rfl
        have hc := Lib.hid (S4.out.cu.far (p := ⟨w.heap.size, 0, none⟩) (by show g < w.heap.size; omega) (.slice none 0 0))
        have hx := Lib.hid (S4.out.ch.setNewD (p := ⟨w.heap.size, 0, none⟩) (by show w.heap.size ≤ w.heap.size; omega) (.slice none 0 0))
        clear rr
        go_wp2
        exact bodyPost_ret (v := .agg #[.slice none 0 0]) (by simp [results, Tryz.results155, go_sem, r0]) rfl ⟨_, _, _, _, rfl, by omega, OwnI.nil_, hc.out.mono (by omega), hx.out⟩
      · have t2E : (v == 2) = false := by rw [beq_eq_false_iff_ne]; exact t2
        by_cases t3 : v = 3
        · subst t3
          obtain ⟨gp, rfl, hgp, _⟩ := S4.out.own.head (by omega)
          have e0 : w4.cell? ⟨w2.heap.size, 0, none⟩ = some (.slice (some ⟨gp, 0, none⟩) n c) := bxc S4.out.bx 0 _ rfl
          have hcd : Cur w4.drew g (L + 12 + 2) := S4.out.cu
          have Sd := Lib.hid (S4.out.chg hlt hcd (Chg.of_below (Below.refl _ _).drew))
          have hpk := Lib.hid (pick_any g _ 2 _ hcd (by omega) (by omega))
          have ew : IntKind.i64.wrap (30 - (n : Int)) = 30 - (n : Int) := IntWalk.i64_in _ (by omega)
          go_wp2_with fail
          go_region_law ((first | (go_simp; go_at_call 85; refine hpk.out.mono ?_; rintro e w7 ⟨y, rfl, hy0, hy1, hc7, hg7⟩; replace hy1 : y ≤ 1 := (by simpa using hy1); obtain ⟨k, rfl⟩ := Int.eq_ofNat_of_zero_le hy0; have S7 := Lib.hid (Sd.out.chg hlt hc7 hg7); have q0 : w7.cell? ⟨w2.heap.size, 0, none⟩ = some (.slice (some ⟨gp, 0, none⟩) n c) := bxc S7.out.bx 0 _ rfl; have q1 := bxf S7.out.bx 0; have hz7 := hg7.size; have o7 := S7.out.own; have hB7 : w.heap.size ≤ w7.heap.size := S7.out.ch.size; have ew2 : IntKind.i64.wrap (30 - (n : Int) + (k : Int)) = ((30 - n + k : Nat) : Int) := (by rw [IntWalk.i64_in _ (by omega)]; omega); dsimp only) | (refine step_appZ (by rfl) _ _ (by rfl) w.heap.size gp n c (30 - n + k) ps (by rfl) (by exact o7) (by rfl) (by omega) (by omega) (by omega) ?_; intro A3 c3 w9 own9 grow9 _; have S9 := Lib.hid (S7.out.grow hlt grow9 own9); have q2 : w9.cell? ⟨w2.heap.size, 0, none⟩ = some (.slice (some ⟨gp, 0, none⟩) n c) := bxc (box_app2 S7.out.bx grow9 (own_ne o7 S7.out.bx (by decide))) 0 _ rfl; have q3 := bxf (box_app2 S7.out.bx grow9 (own_ne o7 S7.out.bx (by decide))) 0)))
          all_goals (clear q0 q1 q2 q3 o7 own9 grow9 hz7 hB7 hc7 hg7 e0 hpk hcd ew ew2)
          all_goals (have R4 := Lib.hid (S9.out.quit hlt (by omega)); have rr := S9.out.rx; have bb := S9.out.bx; have p0 := bxc rr 0 _ rfl; have f0 := bxf rr 0; have i0 := bxc bb 0 (.slice A3 ((n + (30 - n + k))) c3) rfl; have r0 := bxc (box_set rr 0 (.slice A3 ((n + (30 - n + k))) c3)) 0 (.slice A3 ((n + (30 - n + k))) c3) rfl; clear rr bb)
          all_goals go_wp2
          all_goals exact bodyPost_ret (v := .agg #[.slice A3 ((n + (30 - n + k))) c3]) (by simp [results, Tryz.results155, go_sem, r0]) rfl ⟨_, _, _, _, rfl, by omega, R4.out.1, R4.out.2.1.mono (by omega), R4.out.2.2⟩
        · have t3E : (v == 3) = false := by rw [beq_eq_false_iff_ne]; exact t3
          have R3 := Lib.hid (S4.out.quit hlt (by omega))
          have rr := S4.out.rx
          have bb := S4.out.bx
          have p0 := bxc rr 0 _ rfl
          have f0 := bxf rr 0
          have i0 := bxc bb 0 (.slice P (n) c) rfl
          have r0 := bxc (box_set rr 0 (.slice P (n) c)) 0 (.slice P (n) c) rfl
          clear rr bb
          go_wp2
          exact bodyPost_ret (v := .agg #[.slice P (n) c]) (by simp [results, Tryz.results155, go_sem, r0]) rfl ⟨_, _, _, _, rfl, by omega, R3.out.1, R3.out.2.1.mono (by omega), R3.out.2.2⟩
end
end Go.Proofs.YtfanpbfmnckmnaaGreat
