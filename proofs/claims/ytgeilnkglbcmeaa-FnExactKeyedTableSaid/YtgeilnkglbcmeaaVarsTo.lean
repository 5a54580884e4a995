/- The laws' turning helper over slices of variables. -/
import Derived.Test.YtgeilnkglbcmeaaVarsT
namespace Go.Proofs.Ytgeilnkglbcmeaa
open Go.RowKit

theorem row_below {w w' : World} {lo n sz : Nat} {T : TypeId} {v : Value} {ys : List Value} (h : w.ownsRow lo T sz v n ys) (hb : Below w.heap.size w w') : w'.ownsRow lo T sz v n ys := by
  refine ⟨h.1, ?_⟩
  rcases h.2 with h0 | ⟨g, cap, cur, hv, hl, hg, hr⟩
  · exact .inl h0
  · exact .inr ⟨g, cap, cur, hv, hl, (hb.block g (lt_of_block hg)).trans hg, hr⟩
theorem row_two {w : World} {lo n c g k : Nat} {T : TypeId} {ys : List Value} (h : w.ownsRow lo T 2 (.slice (some ⟨g, 0, none⟩) n c) n ys) (hk : k < n) :
    (∃ u, w.cell? ⟨g, k * 2, none⟩ = some u) ∧ (∃ u, w.cell? ⟨g, k * 2 + 1, none⟩ = some u) ∧ w.frozen? ⟨g, k * 2, none⟩ = false ∧ w.frozen? ⟨g, k * 2 + 1, none⟩ = false := by
  have hl := h.1
  refine ⟨⟨ys[k * 2]'(by omega), ?_⟩, ⟨ys[k * 2 + 1]'(by omega), ?_⟩, World.ownsRow.frozenAt h _, World.ownsRow.frozenAt h _⟩
  · rw [World.ownsRow.cellAt h _ (by omega), List.getElem?_eq_getElem]
  · rw [World.ownsRow.cellAt h _ (by omega), List.getElem?_eq_getElem]

set_option maxHeartbeats 800000 in
theorem toVariableS_law (A : Option Addr) (n c : Nat) (vs : List (ByteArray × Int)) (w : World) (hx : VarsR w A n vs) (hn : n ≤ 1099511627776) :
    Calls Try.prog 11 #[.slice A n c] w fun e w' => ∃ A' c', e = .returned (.slice A' n c') ∧ OwnV w' w.heap.size w'.heap.size A' n c' vs ∧ Below w.heap.size w w' := by
  obtain ⟨i0, hi, hz0, hz1, hz2⟩ := info_parts Try.infoVariable
  go_enter Try.func11, Try.ntmps11
  go_wp2_with (at_make; refine wpList_make_full _ rfl _ _ 35 rfl w.heap.size 89 i0 _ 2 Try.underlying35 hi hz0 hz1 .i64 .i64 _ _ n rfl rfl rfl rfl (by rw [hz2]; omega) (by unfold maxLen; omega) (Nat.le_refl _) ?_; intro w1 hown hg)
  have hA : AgreeV vs (madeCells (Value.agg #[.string ByteArray.empty, .int .i64 0]).cells (n * 2)).toList n 0 := ⟨hown.1, fun t ht => absurd ht (by omega)⟩
  generalize (madeCells (Value.agg #[.string ByteArray.empty, .int .i64 0]).cells (n * 2)).toList = y0 at *
  have hb1 : Below w.heap.size w w1 := (Below.refl _ _).grown hg (Nat.le_refl _) (by simp)
  clear hg hi hz0 hz1 hz2
  go_loopw [4] (fun i wr => ∃ (k : Nat) (ys : List Value), k ≤ n ∧ i = .int .i64 k ∧ AgreeV vs ys n k ∧ wr.ownsRow w.heap.size 89 2 (.slice (some ⟨w.heap.size, 0, none⟩) n n) n ys ∧ Below w.heap.size w wr) (fun i _ => n - (intOf i).toNat)
  case atStart => exact ⟨0, _, Nat.zero_le _, rfl, hA, hown, hb1⟩
  case round =>
    clear hA hown hb1
    obtain ⟨k, ys, hk, rfl, hag, hown, hbw⟩ := hrel
    by_cases hlt : k < n
    · obtain ⟨ad, rfl, hc, hc'⟩ := (hx.below hbw).at_ hlt
      have R1 := Lib.hid (hag.step hx.1 hlt)
      clear hx hag
      obtain ⟨s, hse⟩ : ∃ s, vN vs k = s := ⟨_, rfl⟩
      obtain ⟨x, hxe⟩ : ∃ x, vL vs k = x := ⟨_, rfl⟩
      rw [hse] at hc R1
      rw [hxe] at hc' R1
      clear hse hxe
      have HO := Lib.hid hown
      have HB := Lib.hid hbw
      clear hown hbw
      go_wp2_with (go_at_call 59; refine (toVariable_any s x _).mono ?_; rintro e w2 ⟨rfl, hb2⟩; have R2 := Lib.hid (row_below HO.out hb2); have R3 := Lib.hid (HB.out.trans (hb2.mono HB.out.size)); obtain ⟨⟨u0, hu0⟩, ⟨u1, hu1⟩, hf0, hf1⟩ := row_two R2.out hlt)
      go_roundw
      case rel => exact ⟨k + 1, _, by omega, by go_num, R1.out, (World.ownsRow.stored (World.ownsRow.stored R2.out (k * 2) (.string s)).1 (k * 2 + 1) (.int .i64 x)).1, (R3.out.setCell (Nat.le_refl _) _).setCell (Nat.le_refl _) _⟩
      case measure => simp [intOf]; omega
    · have R := hag.fin hx.1 (by omega)
      subst R
      clear hag hx
      go_wp2
      go_ret
      exact ⟨_, _, rfl, ⟨hown, fun g hg => (World.ownsRow.lt hown g (by simpa [rowOf, Value.ownBlock] using hg)).2, hn⟩, hbw⟩
end Go.Proofs.Ytgeilnkglbcmeaa
