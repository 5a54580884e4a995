/- Drawn schemas and values. -/
import Derived.Test.YtgeilnkglbcmeaaDrG
namespace Go.Proofs.Ytgeilnkglbcmeaa
open Go.RowKit

def DStr (g L : Nat) (w : World) (e : Ending) (w' : World) : Prop := ∃ s : ByteArray, e = .returned (.string s) ∧ s.size ≤ 16 ∧ Cur w' g L ∧ Chg g (g + 1) w w'
set_option maxHeartbeats 400000 in
theorem of_any (g L b n c : Nat) (cs : Array Value) (w : World) (h : Cur w g L) (hL : L ≤ 900000000) (hx : w.heap[b]? = some (.cells cs 9 (0, 0))) (hb : g < b) (hn : 1 ≤ n) (hn2 : n ≤ 1000) (hs : ∀ j, j < n → ∃ s : ByteArray, cs[j]? = some (.string s) ∧ s.size ≤ 16) :
    Calls Try.prog 113 #[.pointer (some ⟨g, 0, none⟩), .slice (some ⟨b, 0, none⟩) n c] w (DStr g (L + 2) w) := by
  have HS := Lib.hid hs
  clear hs
  go_enter Try.func113, Try.ntmps113
  go_wp2_with fail
  refine (pick_any _ _ _ _ h hL (by omega)).mono ?_
  rintro e w1 ⟨v, rfl, hv0, hv1, hc1, hg1⟩
  have hv2 : v < n := by
    split at hv1 <;> omega
  clear hv1
  obtain ⟨k, rfl⟩ := Int.eq_ofNat_of_zero_le hv0
  have hk : k < n := by omega
  obtain ⟨s, hsk, hss⟩ := HS.out k hk
  have xb := box_chg hx hg1 (by omega)
  have cc := box_cell xb k _ hsk
  clear hx xb hsk h
  go_wp2
  go_ret
  exact ⟨s, rfl, hss, hc1, hg1⟩

theorem names6_at {k : Nat} (h : k < 6) : ∃ s : ByteArray, (#[.string ⟨#[115, 101, 120]⟩, .string ⟨#[97, 103, 101]⟩, .string ⟨#[106, 111, 98]⟩, .string ⟨#[104, 111, 109, 101]⟩, .string ⟨#[115, 105, 122, 101]⟩, .string ⟨#[108, 97, 110, 103]⟩] : Array Value)[k]? = some (.string s) ∧ s.size ≤ 16 := by
  match k, h with
  | 0, _ => exact ⟨_, rfl, by decide⟩
  | 1, _ => exact ⟨_, rfl, by decide⟩
  | 2, _ => exact ⟨_, rfl, by decide⟩
  | 3, _ => exact ⟨_, rfl, by decide⟩
  | 4, _ => exact ⟨_, rfl, by decide⟩
  | 5, _ => exact ⟨_, rfl, by decide⟩
theorem names5_at {k : Nat} (h : k < 5) : ∃ s : ByteArray, (#[.string ⟨#[]⟩, .string ⟨#[65, 103, 101]⟩, .string ⟨#[97, 98, 99, 100, 101, 102, 103, 104, 105]⟩, .string ⟨#[97, 103, 101]⟩, .string ⟨#[97, 98, 32, 99, 100]⟩] : Array Value)[k]? = some (.string s) ∧ s.size ≤ 16 := by
  match k, h with
  | 0, _ => exact ⟨_, rfl, by decide⟩
  | 1, _ => exact ⟨_, rfl, by decide⟩
  | 2, _ => exact ⟨_, rfl, by decide⟩
  | 3, _ => exact ⟨_, rfl, by decide⟩
  | 4, _ => exact ⟨_, rfl, by decide⟩

set_option maxRecDepth 100000 in
set_option maxHeartbeats 2000000 in
theorem schema_any (g L : Nat) (w : World) (h : Cur w g L) (hL : L ≤ 700000) :
    Calls Try.prog 111 #[.pointer (some ⟨g, 0, none⟩)] w fun e w' => ∃ (A : Option Addr) (m c : Nat) (vs : List (ByteArray × Int)), e = .returned (.slice A m c) ∧ 1 ≤ m ∧ m ≤ 3 ∧ DVr w' w.heap.size A m c vs ∧ Cur w' g (L + 16) ∧ Chg g (g + 1) w w' := by
  obtain ⟨i0, hi, hz0, hz1, hz2⟩ := info_parts Try.infoVariable
  have hlt := h.lt
  have b0 := below_new w (.cells #[.string ⟨#[115, 101, 120]⟩, .string ⟨#[97, 103, 101]⟩, .string ⟨#[106, 111, 98]⟩, .string ⟨#[104, 111, 109, 101]⟩, .string ⟨#[115, 105, 122, 101]⟩, .string ⟨#[108, 97, 110, 103]⟩] 9)
  have xn := box_new w #[.string ⟨#[115, 101, 120]⟩, .string ⟨#[97, 103, 101]⟩, .string ⟨#[106, 111, 98]⟩, .string ⟨#[104, 111, 109, 101]⟩, .string ⟨#[115, 105, 122, 101]⟩, .string ⟨#[108, 97, 110, 103]⟩] 9
  have hc0 := h.below b0
  have hG0 : Chg g (g + 1) w (w.alloc (.cells #[.string ⟨#[115, 101, 120]⟩, .string ⟨#[97, 103, 101]⟩, .string ⟨#[106, 111, 98]⟩, .string ⟨#[104, 111, 109, 101]⟩, .string ⟨#[115, 105, 122, 101]⟩, .string ⟨#[108, 97, 110, 103]⟩] 9)) := Chg.of_below b0
  have HS := Lib.hid (show (w.alloc (.cells #[.string ⟨#[115, 101, 120]⟩, .string ⟨#[97, 103, 101]⟩, .string ⟨#[106, 111, 98]⟩, .string ⟨#[104, 111, 109, 101]⟩, .string ⟨#[115, 105, 122, 101]⟩, .string ⟨#[108, 97, 110, 103]⟩] 9)).heap.size = w.heap.size + 1 by simp)
  clear h b0
  go_enter Try.func111, Try.ntmps111
  go_wp2_with fail
  generalize w.alloc (.cells #[.string ⟨#[115, 101, 120]⟩, .string ⟨#[97, 103, 101]⟩, .string ⟨#[106, 111, 98]⟩, .string ⟨#[104, 111, 109, 101]⟩, .string ⟨#[115, 105, 122, 101]⟩, .string ⟨#[108, 97, 110, 103]⟩] 9) = w1 at *
  go_loopw [4, 5] (fun a i wr => ∃ (k c : Nat) (A : Option Addr) (vs : List (ByteArray × Int)), k ≤ 3 ∧ i = .int .i64 k ∧ a = .slice A k c ∧ DVr wr (w.heap.size + 1) A k c vs ∧ Cur wr g (L + 4 * k) ∧ wr.heap[w.heap.size]? = some (.cells #[.string ⟨#[115, 101, 120]⟩, .string ⟨#[97, 103, 101]⟩, .string ⟨#[106, 111, 98]⟩, .string ⟨#[104, 111, 109, 101]⟩, .string ⟨#[115, 105, 122, 101]⟩, .string ⟨#[108, 97, 110, 103]⟩] 9 (0, 0)) ∧ Chg g (g + 1) w wr ∧ w.heap.size + 1 ≤ wr.heap.size) (fun _ i _ => 3 - (intOf i).toNat)
  case atStart => exact ⟨0, 0, none, [], by omega, rfl, rfl, DVr.nil_, hc0, xn, hG0, by have := HS.out; omega⟩
  case round =>
    clear hc0 xn hG0
    obtain ⟨k, c, A, vs, hk, rfl, rfl, hD, hc, xn, hG, hz⟩ := hrel
    go_wp2_with fail
    refine (pick_any g _ _ _ hc (by omega) (by omega)).mono ?_
    rintro e w2 ⟨v, rfl, hv0, hv1, hc2, hg2⟩
    replace hv1 : v ≤ 2 := by simpa using hv1
    replace hD := hD.chg hg2 (by omega)
    replace xn := box_chg xn hg2 (by omega)
    have hG2 := hG.trans hg2
    have hz2' := hg2.size
    clear hc hG hg2
    by_cases hlk : (k : Int) < 1 + v
    · obtain ⟨s, hsk, hss⟩ := names6_at (show k < 6 by omega)
      have cn := box_cell xn k _ hsk
      have hk0 : (0 : Int) ≤ (k : Int) := by omega
      have hk6 : (k : Int) < 6 := by omega
      have hk2 : k + 1 ≤ 3 := by omega
      have hd : decide ((k : Int) < 1 + v) = true := by simpa using hlk
      have HD := Lib.hid hD
      clear hD hlk
      go_wp2_with fail
      go_region_held3 (fun w' => w'.cell? ⟨w.heap.size, k, none⟩ = some (.string s)) (first | exact cn | exact q1 | exact q2 | go_keep) ((first | (go_at_call 112; refine (pick_any g _ _ _ (by exact hc2) (by omega) (by omega)).mono ?_; rintro e w5 ⟨u, rfl, hu0, hu1, hc5, hg5⟩; replace hu1 : u ≤ 2 := (by simpa using hu1); replace hg5 : Chg g (g + 1) w2 w5 := (Chg.of_below (Below.refl _ _).drew).trans hg5; have hw5 : IntKind.i64.wrap (2 + u) = 2 + u := IntWalk.i64_in _ (by omega); have x5 := box_chg xn hg5 (by omega); have q1 := box_cell x5 k _ hsk; have D5 := HD.out.chg hg5 (by omega); have G5 := hG2.trans hg5; have hz5 := G5.size; have hz55 := hg5.size; have hz56 : w.heap.size + 1 ≤ w5.heap.size := (by have := hg5.size; omega)) | (refine step_appG (cs := #[.string s, .int .i64 (2 + u)]) (by rfl) _ _ (by rfl) Try.underlying35 hi hz0 hz1 hz2 rfl (by omega) (by omega) rfl (by simp [Value.oneCell']) (w.heap.size + 1) A k c (vcells vs) (by rfl) D5.own _ (by rfl) (by rfl) (by omega) (by omega) ?_; intro A3 c3 w6 own6 grow6 _; have hrow : ∀ j, rowOf A = some j → w.heap.size + 1 ≤ j := (fun j hj => (row_ge D5.own j hj).1); have x6 := box_app2 x5 grow6 (fun e => by have := hrow _ e; omega); have q2 := box_cell x6 k _ hsk; have C6 := Lib.hid (cur_app hc5 grow6 (fun j hj => by have := hrow j hj; omega)); have G6 := Lib.hid (chg_app G5 grow6 (fun j hj => by have := hrow j hj; omega)); have D6 : Hid (DVr w6 (w.heap.size + 1) A3 (k + 1) c3 (vs ++ [(s, 2 + u)])) := Lib.hid ⟨by rw [vcells_snoc]; exact own6, D5.bd.snoc (by omega) (by omega) hss⟩; have z6 := grow6.size) | fail))
      all_goals (go_wp2; go_roundw)
      all_goals first | exact ⟨k + 1, c3, A3, _, by omega, by go_num, rfl, D6.out, C6.out.mono (by omega), x6, G6.out, by omega⟩ | (simp [intOf]; omega)
    · have hk1 : 1 ≤ k := by omega
      have hd : decide ((k : Int) < 1 + v) = false := by simpa using hlk
      go_wp2
      go_ret
      exact ⟨A, k, c, vs, rfl, hk1, hk, hD.mono (by omega), hc2.mono (by omega), hG2⟩
end Go.Proofs.Ytgeilnkglbcmeaa
