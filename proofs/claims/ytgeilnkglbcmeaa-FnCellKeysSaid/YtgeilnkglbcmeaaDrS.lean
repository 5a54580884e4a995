/- Drawn schemas and values, of any kind. -/
import Derived.Test.YtgeilnkglbcmeaaDrR
import Derived.Laws.BytesArg
namespace Go.Proofs.Ytgeilnkglbcmeaa
open Go.RowKit

section
variable {w : World} {lo n c ga : Nat} {vs : List (ByteArray × Int)}
theorem DVr.setL {x : Int} (h : DVr w lo (some ⟨ga, 0, none⟩) n c vs) (hn : 1 ≤ n) (h0 : 0 ≤ x) (h1 : x ≤ 9) : ∃ vs', DVr (w.setCell ⟨ga, 1, none⟩ (.int .i64 x)) lo (some ⟨ga, 0, none⟩) n c vs' := by
  have hl := h.len
  rcases vs with _ | ⟨p, vs⟩
  · simp at hl; omega
  · refine ⟨(p.1, x) :: vs, (World.ownsRow.stored h.own 1 (.int .i64 x)).1, fun q hq => ?_⟩
    rcases List.mem_cons.1 hq with rfl | hq
    · exact ⟨h0, h1, (h.bd p (List.mem_cons_self ..)).2.2⟩
    · exact h.bd q (List.mem_cons_of_mem _ hq)
theorem DVr.setN {s : ByteArray} (h : DVr w lo (some ⟨ga, 0, none⟩) n c vs) (hn : 1 ≤ n) (h0 : s.size ≤ 16) : ∃ vs', DVr (w.setCell ⟨ga, 0, none⟩ (.string s)) lo (some ⟨ga, 0, none⟩) n c vs' := by
  have hl := h.len
  rcases vs with _ | ⟨p, vs⟩
  · simp at hl; omega
  · refine ⟨(s, p.2) :: vs, (World.ownsRow.stored h.own 0 (.string s)).1, fun q hq => ?_⟩
    rcases List.mem_cons.1 hq with rfl | hq
    · exact ⟨(h.bd p (List.mem_cons_self ..)).1, (h.bd p (List.mem_cons_self ..)).2.1, h0⟩
    · exact h.bd q (List.mem_cons_of_mem _ hq)
theorem DVr.cells0 (h : DVr w lo (some ⟨ga, 0, none⟩) n c vs) (hn : 1 ≤ n) : w.cell? ⟨ga, 0, none⟩ = some (.string (vN vs 0)) ∧ w.cell? ⟨ga, 1, none⟩ = some (.int .i64 (vL vs 0)) ∧ w.frozen? ⟨ga, 0, none⟩ = false ∧ w.frozen? ⟨ga, 1, none⟩ = false := by
  have hl := h.len
  have hv := vcells_at vs 0 (by omega)
  exact ⟨(World.ownsRow.cellAt h.own 0 (by omega)).trans hv.1, (World.ownsRow.cellAt h.own 1 (by omega)).trans hv.2, World.ownsRow.frozenAt h.own 0, World.ownsRow.frozenAt h.own 1⟩
end

theorem conv_byte (w : World) (x : Int) : (convert 49 9 (.slice (some ⟨w.heap.size, 0, none⟩) 1 1)).run Try.prog (w.alloc (.cells #[.int .u8 x] 5)) = .ok (.string (strOfNums [x])) (w.alloc (.cells #[.int .u8 x] 5)) :=
  run_convert_bytes_arg (P := Try.prog) (w.alloc (.cells #[.int .u8 x] 5)) 49 5 Try.underlying49 Try.underlying5 w.heap.size 0 1 1 [x] rfl (fun i hi => by
    obtain rfl : i = 0 := by omega
    exact box_cell (box_new w #[.int .u8 x] 5) 0 _ rfl) 9 Try.underlying9

set_option maxRecDepth 100000 in
set_option maxHeartbeats 4000000 in
theorem anySchema_any (g L : Nat) (w : World) (h : Cur w g L) (hL : L ≤ 600000) :
    Calls Try.prog 70 #[.pointer (some ⟨g, 0, none⟩)] w (DSch 7 g (L + 40) w) := by
  have hlt := h.lt
  have hc0 := h
  have hG0 := Chg.refl g (g + 1) w
  clear h
  go_enter Try.func70, Try.ntmps70
  go_wp2_with fail
  refine (schema_any g _ _ hc0 (by omega)).mono ?_
  rintro e w1 ⟨A, m, c, vs, rfl, hm1, hm3, od, hc1, hg1⟩
  have hG1 := hG0.trans hg1
  have z1 := hg1.size
  clear hc0 hG0 hg1
  go_wp2_with fail
  refine (pick_any g _ _ _ hc1 (by omega) (by omega)).mono ?_
  rintro e w2 ⟨v2, rfl, v2l, v2u, hc2, hg2⟩
  replace od := od.chg hg2 (by omega)
  have hG2 := hG1.trans hg2
  have z2 := hg2.size
  clear hc1 hG1 hg2
  replace v2u : v2 ≤ 23 := by simpa using v2u
  by_cases tv20 : v2 = 0
  · subst tv20
    go_wp2_with fail
    have xlit3 := box_new w2 #[.int .i64 1, .int .i64 8, .int .i64 9] 3
    replace od := od.below (below_new w2 (.cells #[.int .i64 1, .int .i64 8, .int .i64 9] 3))
    have hc3 := hc2.below (below_new w2 (.cells #[.int .i64 1, .int .i64 8, .int .i64 9] 3))
    have hG3 := hG2.alloc (.cells #[.int .i64 1, .int .i64 8, .int .i64 9] 3)
    have z3 : w2.heap.size + 1 ≤ (w2.alloc (.cells #[.int .i64 1, .int .i64 8, .int .i64 9] 3)).heap.size := by simp
    clear hc2 hG2
    generalize w2.alloc (.cells #[.int .i64 1, .int .i64 8, .int .i64 9] 3) = u3 at *
    have olit3 := own_lit [1, 8, 9] xlit3 (by decide)
    clear xlit3
    refine (among_any g _ _ _ _ _ _ (1) (9) [1, 8, 9] _ hc3 (by omega) olit3 (by omega) (by decide) (by decide) (by decide)).mono ?_
    rintro e w4 ⟨v4, rfl, v4l, v4u, hc4, hg4⟩
    replace od := od.chg hg4 (by omega)
    have hG4 := hG3.trans hg4
    have z4 := hg4.size
    clear hc3 hG3 hg4
    clear olit3
    obtain ⟨ga, rfl, hga1, hga2⟩ := row_head od.own (by omega)
    obtain ⟨cc0, cc1, cf0, cf1⟩ := od.cells0 hm1
    obtain ⟨vs2, od2⟩ := od.setL (x := v4) hm1 (by omega) (by omega)
    have HD := Lib.hid od2
    clear od od2
    have HC5 := Lib.hid (hc4.far (p := ⟨ga, 1, none⟩) (by show g < ga; omega) (.int .i64 v4))
    have HG5 := Lib.hid (hG4.setNewD (p := ⟨ga, 1, none⟩) (by show w.heap.size ≤ ga; omega) (.int .i64 v4))
    clear hc4 hG4
    go_wp2
    go_ret
    exact ⟨_, m, c, vs2, rfl, by omega, HD.out, HC5.out.mono (by omega), HG5.out⟩
  · have tv20E : (v2 == 0) = false := by rw [beq_eq_false_iff_ne]; exact tv20
    by_cases tv21 : v2 = 1
    · subst tv21
      have b5 := below_new w2 (.cells #[.string ⟨#[]⟩, .string ⟨#[65, 103, 101]⟩, .string ⟨#[97, 98, 99, 100, 101, 102, 103, 104, 105]⟩, .string ⟨#[97, 103, 101]⟩, .string ⟨#[97, 98, 32, 99, 100]⟩] 9)
      have x5 := box_new w2 #[.string ⟨#[]⟩, .string ⟨#[65, 103, 101]⟩, .string ⟨#[97, 98, 99, 100, 101, 102, 103, 104, 105]⟩, .string ⟨#[97, 103, 101]⟩, .string ⟨#[97, 98, 32, 99, 100]⟩] 9
      replace od := od.below b5
      have hc5 := hc2.below b5
      have hG5 := hG2.then_ b5
      have z5 := b5.size
      have y5 := Lib.hid (show (w2.alloc (.cells #[.string ⟨#[]⟩, .string ⟨#[65, 103, 101]⟩, .string ⟨#[97, 98, 99, 100, 101, 102, 103, 104, 105]⟩, .string ⟨#[97, 103, 101]⟩, .string ⟨#[97, 98, 32, 99, 100]⟩] 9)).heap.size = w2.heap.size + 1 by simp)
      have y6 : w2.heap.size < (w2.alloc (.cells #[.string ⟨#[]⟩, .string ⟨#[65, 103, 101]⟩, .string ⟨#[97, 98, 99, 100, 101, 102, 103, 104, 105]⟩, .string ⟨#[97, 103, 101]⟩, .string ⟨#[97, 98, 32, 99, 100]⟩] 9)).heap.size := by simp
      clear hc2 hG2 b5
      go_wp2_with fail
      generalize w2.alloc (.cells #[.string ⟨#[]⟩, .string ⟨#[65, 103, 101]⟩, .string ⟨#[97, 98, 99, 100, 101, 102, 103, 104, 105]⟩, .string ⟨#[97, 103, 101]⟩, .string ⟨#[97, 98, 32, 99, 100]⟩] 9) = w5 at *
      refine (of_any g _ _ 5 _ _ _ hc5 (by omega) x5 (by omega) (by omega) (by omega) (fun j hj => names5_at hj)).mono ?_
      rintro e w6 ⟨s, rfl, hss, hc6, hg6⟩
      replace od := od.chg hg6 (by omega)
      have hG6 := hG5.trans hg6
      have z6 := hg6.size
      clear hc5 hG5 hg6 x5
      obtain ⟨ga, rfl, hga1, hga2⟩ := row_head od.own (by omega)
      obtain ⟨cc0, cc1, cf0, cf1⟩ := od.cells0 hm1
      obtain ⟨vs2, od2⟩ := od.setN (s := s) hm1 hss
      have HD := Lib.hid od2
      clear od od2
      have HC6 := Lib.hid (hc6.far (p := ⟨ga, 0, none⟩) (by show g < ga; omega) (.string s))
      have HG6 := Lib.hid (hG6.setNewD (p := ⟨ga, 0, none⟩) (by show w.heap.size ≤ ga; omega) (.string s))
      clear hc6 hG6
      go_wp2
      go_ret
      exact ⟨_, m, c, vs2, rfl, by omega, HD.out, HC6.out.mono (by omega), HG6.out⟩
    · have tv21E : (v2 == 1) = false := by rw [beq_eq_false_iff_ne]; exact tv21
      by_cases tv22 : v2 = 2
      · subst tv22
        go_wp2
        go_ret
        exact ⟨none, 0, 0, [], rfl, by omega, DVr.nil_, hc2.mono (by omega), hG2⟩
      · have tv22E : (v2 == 2) = false := by rw [beq_eq_false_iff_ne]; exact tv22
        by_cases tv23 : v2 = 3
        · subst tv23
          obtain ⟨i0, hi, hz0, hz1, hz2⟩ := info_parts Try.infoVariable
          go_wp2_with fail
          go_loopw [3] (fun a wr => ∃ (A : Option Addr) (k c : Nat) (vs : List (ByteArray × Int)), a = .slice A k c ∧ k ≤ 7 ∧ DVr wr w.heap.size A k c vs ∧ Cur wr g (L + 18 + 2 * k) ∧ Chg g (g + 1) w wr) (fun a _ => 7 - (match a with | .slice _ k _ => k | _ => 0))
          case atStart => exact ⟨A, m, c, vs, rfl, by omega, od, hc2.mono (by omega), hG2⟩
          case round =>
            clear od hc2 hG2 hm1 hm3
            obtain ⟨A, k, c, vs, rfl, hk, od, hc, hG⟩ := hrel
            have hz := hG.size
            go_wp2_with fail
            refine (pick_any g _ _ _ hc (by omega) (by omega)).mono ?_
            rintro e w7 ⟨u, rfl, hu0, hu1, hc7, hg7⟩
            replace hu1 : u ≤ 1 := by simpa using hu1
            replace od := od.chg hg7 (by omega)
            have hG7 := hG.trans hg7
            have z7 := hg7.size
            clear hc hG hg7
            by_cases hlk : (k : Int) < 6 + u
            · have hd : decide ((k : Int) < 6 + u) = true := by simpa using hlk
              have hk2 : k + 1 ≤ 7 := by omega
              have hconv := conv_byte w7 (97 + k)
              have hss : ((⟨#[120]⟩ : ByteArray) ++ strOfNums [97 + (k : Int)]).size ≤ 16 := by have h1 : (strOfNums [97 + (k : Int)]).size = 1 := rfl; rw [ByteArray.size_append, h1]; decide
              have hrow : ∀ j, rowOf A = some j → w.heap.size ≤ j := fun j hj => (row_ge od.own j hj).1
              go_wp2_with (at_builtin; refine wp_appG rfl _ _ rfl Try.underlying35 hi hz0 hz1 hz2 rfl (by omega) (by omega) rfl (by simp [Value.oneCell']) w.heap.size A k c (vcells vs) rfl (row_below od.own (below_new _ _)) _ rfl (by simp) (by omega) (by simp; omega) ?_; intro A3 c3 w8 own8 grow8 _)
              have b8 := below_new w7 (.cells #[.int .u8 (97 + k)] 5)
              have hc8 := cur_app (hc7.below b8) grow8 (fun j hj => by have := hrow j hj; omega)
              have hG8 := chg_app (hG7.then_ b8) grow8 hrow
              have D8 : DVr w8 w.heap.size A3 (k + 1) c3 (vs ++ [(⟨#[120]⟩ ++ strOfNums [97 + (k : Int)], 2)]) := ⟨by rw [vcells_snoc]; exact own8, od.bd.snoc (by omega) (by omega) hss⟩
              go_roundw
              case rel => exact ⟨A3, k + 1, c3, _, rfl, by omega, D8, hc8.mono (by omega), hG8⟩
              case measure => simp; omega
            · have hd : decide ((k : Int) < 6 + u) = false := by simpa using hlk
              go_wp2
              go_ret
              exact ⟨A, k, c, vs, rfl, hk, od, hc7.mono (by omega), hG7⟩
        · have tv23E : (v2 == 3) = false := by rw [beq_eq_false_iff_ne]; exact tv23
          go_wp2
          go_ret
          exact ⟨A, m, c, vs, rfl, by omega, od, hc2.mono (by omega), hG2⟩
end Go.Proofs.Ytgeilnkglbcmeaa
