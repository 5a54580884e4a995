/- The walk of the law FnExactGaussSample, printed by lawgen.py off the law's own text. -/
import Derived.Test.YtfkdmddfadkjoaaGaussSample
import Derived.Deep.CutRange
import Derived.Deep.RegionHeld3
import Derived.Test.YtfkdmddfadkjoaaCut
namespace Go.Proofs.Ytfkdmddfadkjoaa
open Go.RowKit

set_option maxRecDepth 100000 in
set_option maxHeartbeats 4000000 in
theorem walk_FnExactGaussSample (a0 j0 : Int) (a1 j1 : Int) (w : World) (_w0 : (Lit.int .i64 a0).wf = true) (_v0 : (Lit.int .i64 j0).wf = true) (_w1 : (Lit.int .i64 a1).wf = true) (_v1 : (Lit.int .i64 j1).wf = true) :
    Calls Try.prog 5 #[.agg #[.int .i64 a0, .int .i64 j0], .agg #[.int .i64 a1, .int .i64 j1]] w fun e w' => e = .returned (.bool true) ∧ Below w.heap.size w w' := by
  go_enter Try.func5, Try.ntmps5
  have B0 : Below w.heap.size w w := Below.refl _ _
  go_wp2_with fail
  have b1 : Below w.heap.size w (w.alloc (.cells #[.int .i64 a0, .int .i64 j0] 37)) := below_new _ _
  have x0 : (w.alloc (.cells #[.int .i64 a0, .int .i64 j0] 37)).heap[w.heap.size]? = some (.cells #[.int .i64 a0, .int .i64 j0] 37 (0, 0)) := box_new _ _ _
  have q0 : (w.alloc (.cells #[.int .i64 a0, .int .i64 j0] 37)).heap.size = w.heap.size + 1 := by simp
  generalize w.alloc (.cells #[.int .i64 a0, .int .i64 j0] 37) = w1 at b1 x0 q0 ⊢
  have B1 := B0.trans (b1.mono B0.size)
  have S1 := b1.size
  clear b1
  have Z0 := Lib.hid B0
  clear B0 Z0
  have cx0 := box_cell x0 0 _ rfl
  have dx0 := box_cell x0 1 _ rfl
  have lx0 := lt_of_block x0
  have mx0 := lt_of_block x0
  have b2 : Below w1.heap.size w1 (w1.alloc (.cells #[.int .i64 a1, .int .i64 j1] 24)) := below_new _ _
  have x1 : (w1.alloc (.cells #[.int .i64 a1, .int .i64 j1] 24)).heap[w.heap.size + 1]? = some (.cells #[.int .i64 a1, .int .i64 j1] 24 (0, 0)) := by rw [← q0]; exact box_new _ _ _
  generalize w1.alloc (.cells #[.int .i64 a1, .int .i64 j1] 24) = w2 at b2 x1 ⊢
  clear q0
  have B2 := B1.trans (b2.mono B1.size)
  have S2 := b2.size
  replace x0 := (b2.block _ (lt_of_block x0)).trans x0
  replace lx0 := lt_of_block x0
  clear cx0 dx0
  have cx0 := box_cell x0 0 _ rfl
  have dx0 := box_cell x0 1 _ rfl
  clear b2
  have Z1 := Lib.hid B1
  clear B1 Z1
  have cx1 := box_cell x1 0 _ rfl
  have dx1 := box_cell x1 1 _ rfl
  have lx1 := lt_of_block x1
  have mx1 := lt_of_block x1
  go_cut [5, 6, 7] from 11 to 200 (fun u5 u6 u7 wx => ∃ g, u5 = .int .i64 (oV (gauR a0 j0 a1 j1)) ∧ u6 = .pointer (some ⟨g, 0, none⟩) ∧ u7 = .bool (oB (gauR a0 j0 a1 j1)) ∧ wx.heap[g]? = some (.cells #[.int .i64 (oS a0 (gauR a0 j0 a1 j1)), .int .i64 (oA (gauR a0 j0 a1 j1))] 38 (0, 0)) ∧ w2.heap.size ≤ g ∧ Below w2.heap.size w2 wx)
  case first =>
    have B90 := (Below.refl w2.heap.size w2).drew
    have x0k90 : w2.drew.heap[w.heap.size]? = _ := x0
    have x1k90 : w2.drew.heap[w.heap.size + 1]? = _ := x1
    go_region_held3 (fun w' => w'.cell? ⟨w.heap.size, 0, none⟩ = some (.int .i64 a0) ∧ w'.cell? ⟨w.heap.size, 1, none⟩ = some (.int .i64 j0) ∧ w'.cell? ⟨w.heap.size + 1, 0, none⟩ = some (.int .i64 a1) ∧ w'.cell? ⟨w.heap.size + 1, 1, none⟩ = some (.int .i64 j1)) (first | exact ⟨x0093, x0193, x1093, x1193⟩ | exact ⟨x0092, x0192, x1092, x1192⟩ | exact ⟨x0091, x0191, x1091, x1191⟩ | exact ⟨cell_two x0093 (by omega), cell_two x0193 (by omega), cell_two x1093 (by omega), cell_two x1193 (by omega)⟩ | exact ⟨cell_new x0093, cell_new x0193, cell_new x1093, cell_new x1193⟩ | go_keep) (first
          | (go_at_call 21; refine (toStream_any _ _ _).mono ?_; rintro e w91 ⟨rfl, b91⟩; (first | (have B91 := keepB B90 (Nat.le_refl _) b91; have x0k91 := box_below x0k90 b91; have x1k91 := box_below x1k90 b91; (first | (have G91 := box_below G90.1 b91; have G91 := And.intro G91 G90.2) | skip)) | (have b91 : Below (w2.drew.alloc (.cells #[.int .i64 0, .int .i64 0] 38)).heap.size (w2.drew.alloc (.cells #[.int .i64 0, .int .i64 0] 38)) w91 := b91; have B91 := keepBN B90 (Nat.le_refl _) b91; have x0k91 := keepN x0k90 b91; have x1k91 := keepN x1k90 b91; have G91 : w91.heap[w2.heap.size]? = _ ∧ w2.heap.size ≤ w2.heap.size := newAt (a := World.drew w2) B90 (Nat.le_refl _) b91)); have x0091 := box_cell x0k91 0 _ rfl; have x0191 := box_cell x0k91 1 _ rfl; have x1091 := box_cell x1k91 0 _ rfl; have x1191 := box_cell x1k91 1 _ rfl; (first | (have l91 := G91.2; have d0 := box_cell G91.1 0 _ rfl; have d1 := box_cell G91.1 1 _ rfl; have f0 := box_free G91.1 0; have f1 := box_free G91.1 1) | skip))
          | (go_at_call 13; refine (toFrac_any _ _ _).mono ?_; rintro e w92 ⟨rfl, b92⟩; (first | (have B92 := keepB B91 (Nat.le_refl _) b92; have x0k92 := box_below x0k91 b92; have x1k92 := box_below x1k91 b92; (first | (have G92 := box_below G91.1 b92; have G92 := And.intro G92 G91.2) | skip)) | (have B92 := keepBN B91 (Nat.le_refl _) b92; have x0k92 := keepN x0k91 b92; have x1k92 := keepN x1k91 b92; have G92 := newAt B91 (Nat.le_refl _) b92)); have x0092 := box_cell x0k92 0 _ rfl; have x0192 := box_cell x0k92 1 _ rfl; have x1092 := box_cell x1k92 0 _ rfl; have x1192 := box_cell x1k92 1 _ rfl; (first | (have l92 := G92.2; have d0 := box_cell G92.1 0 _ rfl; have d1 := box_cell G92.1 1 _ rfl; have f0 := box_free G92.1 0; have f1 := box_free G92.1 1) | skip))
          | (go_at_call 20; refine (specGaussSample_law _ _ _ _ _).mono ?_; rintro e w93 ⟨rfl, b93⟩; (first | (have B93 := keepB B92 (Nat.le_refl _) b93; have x0k93 := box_below x0k92 b93; have x1k93 := box_below x1k92 b93; (first | (have G93 := box_below G92.1 b93; have G93 := And.intro G93 G92.2) | skip)) | (have B93 := keepBN B92 (Nat.le_refl _) b93; have x0k93 := keepN x0k92 b93; have x1k93 := keepN x1k92 b93; have G93 := newAt B92 (Nat.le_refl _) b93)); have x0093 := box_cell x0k93 0 _ rfl; have x0193 := box_cell x0k93 1 _ rfl; have x1093 := box_cell x1k93 0 _ rfl; have x1193 := box_cell x1k93 1 _ rfl; (first | (have l93 := G93.2; have d0 := box_cell G93.1 0 _ rfl; have d1 := box_cell G93.1 1 _ rfl; have f0 := box_free G93.1 0; have f1 := box_free G93.1 1) | skip)))
    all_goals (go_wp2_with fail; go_meet; first | exact ⟨_, rfl, rfl, rfl, store_two G93.1 _ _, G93.2, below_two B93 G93.2⟩ | exact ⟨_, rfl, rfl, rfl, box_new _ _ _, B93.size, keepB B93 (Nat.le_refl _) (below_new _ _)⟩)
  case rest =>
  obtain ⟨g2, rfl, rfl, rfl, xnw1, gl2, b3⟩ := hcut
  generalize wc = w3 at *
  have B3 := B2.trans (b3.mono B2.size)
  have S3 := b3.size
  replace x0 := (b3.block _ (lt_of_block x0)).trans x0
  replace lx0 := lt_of_block x0
  clear cx0 dx0
  have cx0 := box_cell x0 0 _ rfl
  have dx0 := box_cell x0 1 _ rfl
  replace x1 := (b3.block _ (lt_of_block x1)).trans x1
  replace lx1 := lt_of_block x1
  clear cx1 dx1
  have cx1 := box_cell x1 0 _ rfl
  have dx1 := box_cell x1 1 _ rfl
  clear b3
  have Z2 := Lib.hid B2
  clear B2 Z2
  have cxnw1 := box_cell xnw1 0 _ rfl
  have dxnw1 := box_cell xnw1 1 _ rfl
  have lxnw1 := lt_of_block xnw1
  have mxnw1 := lt_of_block xnw1
  go_wp2_with fail
  go_cut [8, 9, 10] from 11 to 200 (fun u8 u9 u10 wx => ∃ g, u8 = .int .i64 (oV (gauR a0 j0 a1 j1)) ∧ u9 = .pointer (some ⟨g, 0, none⟩) ∧ u10 = .bool (oB (gauR a0 j0 a1 j1)) ∧ wx.heap[g]? = some (.cells #[.int .i64 (oS a0 (gauR a0 j0 a1 j1)), .int .i64 (oA (gauR a0 j0 a1 j1))] 38 (0, 0)) ∧ w3.heap.size ≤ g ∧ Below w3.heap.size w3 wx)
  case first =>
    have B90 := (Below.refl w3.heap.size w3).drew
    have x0k90 : w3.drew.heap[w.heap.size]? = _ := x0
    have x1k90 : w3.drew.heap[w.heap.size + 1]? = _ := x1
    go_region_held3 (fun w' => w'.cell? ⟨w.heap.size, 0, none⟩ = some (.int .i64 a0) ∧ w'.cell? ⟨w.heap.size, 1, none⟩ = some (.int .i64 j0) ∧ w'.cell? ⟨w.heap.size + 1, 0, none⟩ = some (.int .i64 a1) ∧ w'.cell? ⟨w.heap.size + 1, 1, none⟩ = some (.int .i64 j1)) (first | exact ⟨x0093, x0193, x1093, x1193⟩ | exact ⟨x0092, x0192, x1092, x1192⟩ | exact ⟨x0091, x0191, x1091, x1191⟩ | exact ⟨cell_two x0093 (by omega), cell_two x0193 (by omega), cell_two x1093 (by omega), cell_two x1193 (by omega)⟩ | exact ⟨cell_new x0093, cell_new x0193, cell_new x1093, cell_new x1193⟩ | go_keep) (first
          | (go_at_call 21; refine (toStream_any _ _ _).mono ?_; rintro e w91 ⟨rfl, b91⟩; (first | (have B91 := keepB B90 (Nat.le_refl _) b91; have x0k91 := box_below x0k90 b91; have x1k91 := box_below x1k90 b91; (first | (have G91 := box_below G90.1 b91; have G91 := And.intro G91 G90.2) | skip)) | (have b91 : Below (w3.drew.alloc (.cells #[.int .i64 0, .int .i64 0] 38)).heap.size (w3.drew.alloc (.cells #[.int .i64 0, .int .i64 0] 38)) w91 := b91; have B91 := keepBN B90 (Nat.le_refl _) b91; have x0k91 := keepN x0k90 b91; have x1k91 := keepN x1k90 b91; have G91 : w91.heap[w3.heap.size]? = _ ∧ w3.heap.size ≤ w3.heap.size := newAt (a := World.drew w3) B90 (Nat.le_refl _) b91)); have x0091 := box_cell x0k91 0 _ rfl; have x0191 := box_cell x0k91 1 _ rfl; have x1091 := box_cell x1k91 0 _ rfl; have x1191 := box_cell x1k91 1 _ rfl; (first | (have l91 := G91.2; have d0 := box_cell G91.1 0 _ rfl; have d1 := box_cell G91.1 1 _ rfl; have f0 := box_free G91.1 0; have f1 := box_free G91.1 1) | skip))
          | (go_at_call 13; refine (toFrac_any _ _ _).mono ?_; rintro e w92 ⟨rfl, b92⟩; (first | (have B92 := keepB B91 (Nat.le_refl _) b92; have x0k92 := box_below x0k91 b92; have x1k92 := box_below x1k91 b92; (first | (have G92 := box_below G91.1 b92; have G92 := And.intro G92 G91.2) | skip)) | (have B92 := keepBN B91 (Nat.le_refl _) b92; have x0k92 := keepN x0k91 b92; have x1k92 := keepN x1k91 b92; have G92 := newAt B91 (Nat.le_refl _) b92)); have x0092 := box_cell x0k92 0 _ rfl; have x0192 := box_cell x0k92 1 _ rfl; have x1092 := box_cell x1k92 0 _ rfl; have x1192 := box_cell x1k92 1 _ rfl; (first | (have l92 := G92.2; have d0 := box_cell G92.1 0 _ rfl; have d1 := box_cell G92.1 1 _ rfl; have f0 := box_free G92.1 0; have f1 := box_free G92.1 1) | skip))
          | (go_at_call 22; refine (implGaussSample_law _ _ _ _ _).mono ?_; rintro e w93 ⟨rfl, b93⟩; (first | (have B93 := keepB B92 (Nat.le_refl _) b93; have x0k93 := box_below x0k92 b93; have x1k93 := box_below x1k92 b93; (first | (have G93 := box_below G92.1 b93; have G93 := And.intro G93 G92.2) | skip)) | (have B93 := keepBN B92 (Nat.le_refl _) b93; have x0k93 := keepN x0k92 b93; have x1k93 := keepN x1k92 b93; have G93 := newAt B92 (Nat.le_refl _) b93)); have x0093 := box_cell x0k93 0 _ rfl; have x0193 := box_cell x0k93 1 _ rfl; have x1093 := box_cell x1k93 0 _ rfl; have x1193 := box_cell x1k93 1 _ rfl; (first | (have l93 := G93.2; have d0 := box_cell G93.1 0 _ rfl; have d1 := box_cell G93.1 1 _ rfl; have f0 := box_free G93.1 0; have f1 := box_free G93.1 1) | skip)))
    all_goals (go_wp2_with fail; go_meet; first | exact ⟨_, rfl, rfl, rfl, store_two G93.1 _ _, G93.2, below_two B93 G93.2⟩ | exact ⟨_, rfl, rfl, rfl, box_new _ _ _, B93.size, keepB B93 (Nat.le_refl _) (below_new _ _)⟩)
  case rest =>
  obtain ⟨g3, rfl, rfl, rfl, xng1, gl3, b4⟩ := hcut
  generalize wc = w4 at *
  have B4 := B3.trans (b4.mono B3.size)
  have S4 := b4.size
  replace x0 := (b4.block _ (lt_of_block x0)).trans x0
  replace lx0 := lt_of_block x0
  clear cx0 dx0
  have cx0 := box_cell x0 0 _ rfl
  have dx0 := box_cell x0 1 _ rfl
  replace x1 := (b4.block _ (lt_of_block x1)).trans x1
  replace lx1 := lt_of_block x1
  clear cx1 dx1
  have cx1 := box_cell x1 0 _ rfl
  have dx1 := box_cell x1 1 _ rfl
  replace xnw1 := (b4.block _ (lt_of_block xnw1)).trans xnw1
  replace lxnw1 := lt_of_block xnw1
  clear cxnw1 dxnw1
  have cxnw1 := box_cell xnw1 0 _ rfl
  have dxnw1 := box_cell xnw1 1 _ rfl
  clear b4
  have Z3 := Lib.hid B3
  clear B3 Z3
  have cxng1 := box_cell xng1 0 _ rfl
  have dxng1 := box_cell xng1 1 _ rfl
  have lxng1 := lt_of_block xng1
  have mxng1 := lt_of_block xng1
  go_wp2_with fail
  refine (eqStream_true _ _ _).mono ?_
  rintro e w5 ⟨rfl, b5⟩
  have B5 := B4.trans (b5.mono B4.size)
  have S5 := b5.size
  replace x0 := (b5.block _ (lt_of_block x0)).trans x0
  replace lx0 := lt_of_block x0
  clear cx0 dx0
  have cx0 := box_cell x0 0 _ rfl
  have dx0 := box_cell x0 1 _ rfl
  replace x1 := (b5.block _ (lt_of_block x1)).trans x1
  replace lx1 := lt_of_block x1
  clear cx1 dx1
  have cx1 := box_cell x1 0 _ rfl
  have dx1 := box_cell x1 1 _ rfl
  replace xnw1 := (b5.block _ (lt_of_block xnw1)).trans xnw1
  replace lxnw1 := lt_of_block xnw1
  clear cxnw1 dxnw1
  have cxnw1 := box_cell xnw1 0 _ rfl
  have dxnw1 := box_cell xnw1 1 _ rfl
  replace xng1 := (b5.block _ (lt_of_block xng1)).trans xng1
  replace lxng1 := lt_of_block xng1
  clear cxng1 dxng1
  have cxng1 := box_cell xng1 0 _ rfl
  have dxng1 := box_cell xng1 1 _ rfl
  clear b5
  have Z4 := Lib.hid B4
  clear B4 Z4
  go_wp2
  go_ret
  exact ⟨rfl, B5⟩
end Go.Proofs.Ytfkdmddfadkjoaa
