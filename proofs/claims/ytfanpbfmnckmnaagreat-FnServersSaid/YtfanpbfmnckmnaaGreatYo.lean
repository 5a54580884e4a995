/- Several small texts in one: DgA, DgB, DgC. -/
import Derived.Test.YtfanpbfmnckmnaaGreatYc
import Derived.Test.YtfanpbfmnckmnaaGreatZe
import Derived.Test.YtfanpbfmnckmnaaGreatYi
import Derived.Test.YtfanpbfmnckmnaaGreatYd
import Derived.Deep.RegionLaw
namespace Go.Proofs.YtfanpbfmnckmnaaGreat

section
open Go.RowKit

/-- The names that are drawn. -/
def snm : Nat → ByteArray
  | 0 => ⟨#[115, 101, 120]⟩
  | 1 => ⟨#[97, 103, 101]⟩
  | _ => ⟨#[106, 111, 98]⟩
theorem snm_cases {P : Nat → Prop} (h0 : P 0) (h1 : P 1) (h2 : P 2) : ∀ i, i < 3 → P i
  | 0, _ => h0
  | 1, _ => h1
  | 2, _ => h2
  | n + 3, h => absurd h (by omega)
theorem snm_word : ∀ i, i < 3 → wordB (snm i) = true := snm_cases (by decide) (by decide) (by decide)
theorem list_ne {s t : ByteArray} (h : s.data.toList ≠ t.data.toList) : nmEq s t = false := by
  unfold nmEq
  rw [beq_eq_false_iff_ne]
  intro e
  apply h
  rw [ByteArray.toList_eq, ByteArray.toList_eq] at e
  exact e
theorem snm_new : ∀ i, i < 3 → ∀ j, j < i → nmEq (snm j) (snm i) = false :=
  snm_cases (fun j hj => absurd hj (by omega)) (fun j hj => by obtain rfl : j = 0 := by omega
                                                               exact list_ne (by decide)) (fun j hj => by
    rcases (by omega : j = 0 ∨ j = 1) with rfl | rfl
    · exact list_ne (by decide)
    · exact list_ne (by decide))
/-- The beginning of the drawn names, with few levels. -/
def SchV (vs : List (ByteArray × Int)) : Prop := ∀ j, j < vs.length → vN vs j = snm j ∧ 2 ≤ vL vs j ∧ vL vs j ≤ 4
theorem SchV.nil_ : SchV [] := fun j h => absurd h (by simp)
theorem SchV.snoc {vs : List (ByteArray × Int)} {s : ByteArray} {x : Int} {k : Nat} (h : SchV vs) (hl : vs.length = k) (hs : s = snm k) (h0 : 2 ≤ x) (h1 : x ≤ 4) : SchV (vs ++ [(s, x)]) := fun j hj => by
  unfold vN vL
  rcases Nat.lt_or_ge j vs.length with h2 | h2
  · rw [List.getElem?_append_left h2]; exact h j h2
  · obtain rfl : j = vs.length := by simp at hj; omega
    rw [List.getElem?_append_right (by omega), Nat.sub_self]
    exact ⟨by rw [hl, ← hs]; rfl, h0, h1⟩
theorem SchV.ok {vs : List (ByteArray × Int)} (h : SchV vs) (h1 : 1 ≤ vs.length) (h3 : vs.length ≤ 3) : schB vs = true :=
  schB_yes rfl ⟨h1, by omega⟩ fun i hi => varOk_yes (by rw [(h i hi).1]; exact snm_word i (by omega)) ⟨(h i hi).2.1, by have := (h i hi).2.2; omega⟩ fun j hj => by
    rw [(h j (by omega)).1, (h i hi).1]; exact snm_new i (by omega) j hj
theorem names3_at {k : Nat} (h : k < 3) : ∃ s : ByteArray, (#[.string ⟨#[115, 101, 120]⟩, .string ⟨#[97, 103, 101]⟩, .string ⟨#[106, 111, 98]⟩, .string ⟨#[104, 111, 109, 101]⟩, .string ⟨#[115, 105, 122, 101]⟩, .string ⟨#[108, 97, 110, 103]⟩] : Array Value)[k]? = some (.string s) ∧ s.size ≤ 16 ∧ Hid (s = snm k) := by
  match k, h with
  | 0, _ => exact ⟨_, rfl, by decide, Lib.hid rfl⟩
  | 1, _ => exact ⟨_, rfl, by decide, Lib.hid rfl⟩
  | 2, _ => exact ⟨_, rfl, by decide, Lib.hid rfl⟩

set_option maxRecDepth 100000 in
set_option maxHeartbeats 2000000 in
theorem schemaV_any (g L : Nat) (w : World) (h : Cur w g L) (hL : L ≤ 700000) :
    Calls Tryz.prog 208 #[.pointer (some ⟨g, 0, none⟩)] w fun e w' => ∃ (A : Option Addr) (m c : Nat) (vs : List (ByteArray × Int)), e = .returned (.slice A m c) ∧ 1 ≤ m ∧ m ≤ 3 ∧ DVr w' w.heap.size A m c vs ∧ Hid (SchV vs) ∧ Cur w' g (L + 16) ∧ Chg g (g + 1) w w' := by
  obtain ⟨i0, hi, hz0, hz1, hz2⟩ := info_parts Tryz.infoVariable
  have hlt := h.lt
  have b0 := below_new w (.cells #[.string ⟨#[115, 101, 120]⟩, .string ⟨#[97, 103, 101]⟩, .string ⟨#[106, 111, 98]⟩, .string ⟨#[104, 111, 109, 101]⟩, .string ⟨#[115, 105, 122, 101]⟩, .string ⟨#[108, 97, 110, 103]⟩] 9)
  have xn := box_new w #[.string ⟨#[115, 101, 120]⟩, .string ⟨#[97, 103, 101]⟩, .string ⟨#[106, 111, 98]⟩, .string ⟨#[104, 111, 109, 101]⟩, .string ⟨#[115, 105, 122, 101]⟩, .string ⟨#[108, 97, 110, 103]⟩] 9
  have hc0 := h.below b0
  have hG0 : Chg g (g + 1) w (w.alloc (.cells #[.string ⟨#[115, 101, 120]⟩, .string ⟨#[97, 103, 101]⟩, .string ⟨#[106, 111, 98]⟩, .string ⟨#[104, 111, 109, 101]⟩, .string ⟨#[115, 105, 122, 101]⟩, .string ⟨#[108, 97, 110, 103]⟩] 9)) := Chg.of_below b0
  have HS := Lib.hid (show (w.alloc (.cells #[.string ⟨#[115, 101, 120]⟩, .string ⟨#[97, 103, 101]⟩, .string ⟨#[106, 111, 98]⟩, .string ⟨#[104, 111, 109, 101]⟩, .string ⟨#[115, 105, 122, 101]⟩, .string ⟨#[108, 97, 110, 103]⟩] 9)).heap.size = w.heap.size + 1 by simp)
  clear h b0
  go_enter Tryz.func208, Tryz.ntmps208
  go_wp2_with fail
  generalize w.alloc (.cells #[.string ⟨#[115, 101, 120]⟩, .string ⟨#[97, 103, 101]⟩, .string ⟨#[106, 111, 98]⟩, .string ⟨#[104, 111, 109, 101]⟩, .string ⟨#[115, 105, 122, 101]⟩, .string ⟨#[108, 97, 110, 103]⟩] 9) = w1 at *
  go_loopw [4, 5] (fun a i wr => ∃ (k c : Nat) (A : Option Addr) (vs : List (ByteArray × Int)), k ≤ 3 ∧ i = .int .i64 k ∧ a = .slice A k c ∧ DVr wr (w.heap.size + 1) A k c vs ∧ Hid (SchV vs) ∧ Cur wr g (L + 4 * k) ∧ wr.heap[w.heap.size]? = some (.cells #[.string ⟨#[115, 101, 120]⟩, .string ⟨#[97, 103, 101]⟩, .string ⟨#[106, 111, 98]⟩, .string ⟨#[104, 111, 109, 101]⟩, .string ⟨#[115, 105, 122, 101]⟩, .string ⟨#[108, 97, 110, 103]⟩] 9 (0, 0)) ∧ Chg g (g + 1) w wr ∧ w.heap.size + 1 ≤ wr.heap.size) (fun _ i _ => 3 - (intOf i).toNat)
  case atStart => exact ⟨0, 0, none, [], by omega, rfl, rfl, DVr.nil_, Lib.hid SchV.nil_, hc0, xn, hG0, by have := HS.out; omega⟩
  case round =>
    clear hc0 xn hG0
    obtain ⟨k, c, A, vs, hk, rfl, rfl, hD, HSV, hc, xn, hG, hz⟩ := hrel
    have HLN := Lib.hid hD.len
    go_wp2_with fail
    refine (pick_any g _ _ _ hc (by omega) (by omega)).mono ?_
    rintro e w2 ⟨v, rfl, hv0, hv1, hc2, hg2⟩
    replace hv1 : v ≤ 2 := by simpa using hv1
    replace hD := hD.chg hg2 (by omega)
    replace xn := box_chg xn hg2 (by omega)
    have hG2 := hG.trans hg2
    have hz2' := hg2.size
    clear hc hG hg2
    by_cases hlk : (k : Int) < 1 + v
    · obtain ⟨s, hsk, hss, hsn⟩ := names3_at (show k < 3 by omega)
      have cn := bxc xn k _ hsk
      have hk0 : (0 : Int) ≤ (k : Int) := by omega
      have hk6 : (k : Int) < 6 := by omega
      have hk2 : k + 1 ≤ 3 := by omega
      have hd : decide ((k : Int) < 1 + v) = true := by simpa using hlk
      have HD := Lib.hid hD
      clear hD hlk
      go_wp2_with fail
      go_region_held3 (fun w' => w'.cell? ⟨w.heap.size, k, none⟩ = some (.string s)) (first | exact cn | exact q1 | exact q2 | go_keep) ((first | (go_at_call 85; refine (pick_any g _ _ _ (by exact hc2) (by omega) (by omega)).mono ?_; rintro e w5 ⟨u, rfl, hu0, hu1, hc5, hg5⟩; replace hu1 : u ≤ 2 := (by simpa using hu1); replace hg5 : Chg g (g + 1) w2 w5 := (Chg.of_below (Below.refl _ _).drew).trans hg5; have hw5 : IntKind.i64.wrap (2 + u) = 2 + u := IntWalk.i64_in _ (by omega); have x5 := box_chg xn hg5 (by omega); have q1 := bxc x5 k _ hsk; have D5 := HD.out.chg hg5 (by omega); have G5 := hG2.trans hg5; have hz5 := G5.size; have hz55 := hg5.size; have hz56 : w.heap.size + 1 ≤ w5.heap.size := (by have := hg5.size; omega)) | (refine step_appG (cs := #[.string s, .int .i64 (2 + u)]) (by rfl) _ _ (by rfl) Tryz.underlying37 hi hz0 hz1 hz2 rfl (by omega) (by omega) rfl (by simp [Value.oneCell']) (w.heap.size + 1) A k c (vcells vs) (by rfl) D5.own _ (by rfl) (by rfl) (by omega) (by omega) ?_; intro A3 c3 w6 own6 grow6 _; have hrow : ∀ j, rowOf A = some j → w.heap.size + 1 ≤ j := (fun j hj => (row_ge D5.own j hj).1); have x6 := box_app2 x5 grow6 (fun e => by have := hrow _ e; omega); have q2 := bxc x6 k _ hsk; have C6 := Lib.hid (cur_app hc5 grow6 (fun j hj => by have := hrow j hj; omega)); have G6 := Lib.hid (chg_app G5 grow6 (fun j hj => by have := hrow j hj; omega)); have D6 : Hid (DVr w6 (w.heap.size + 1) A3 (k + 1) c3 (vs ++ [(s, 2 + u)])) := Lib.hid ⟨by rw [vcells_snoc]; exact own6, D5.bd.snoc (by omega) (by omega) hss⟩; have z6 := grow6.size) | fail))
      all_goals (go_wp2; go_roundw)
      all_goals first | exact ⟨k + 1, c3, A3, _, by omega, by go_num, rfl, D6.out, Lib.hid (HSV.out.snoc HLN.out hsn.out (by omega) (by omega)), C6.out.mono (by omega), x6, G6.out, by omega⟩ | (simp [intOf]; omega)
    · have hk1 : 1 ≤ k := by omega
      have hd : decide ((k : Int) < 1 + v) = false := by simpa using hlk
      go_wp2
      go_ret
      exact ⟨A, k, c, vs, rfl, hk1, hk, hD.mono (by omega), HSV, hc2.mono (by omega), hG2⟩

/-- Values within the levels. -/
def ValV (vs : List (ByteArray × Int)) (xs : List Int) : Prop := ∀ j, j < xs.length → 0 ≤ xs[j]?.getD 0 ∧ xs[j]?.getD 0 ≤ vL vs j - 1
theorem ValV.nil_ {vs : List (ByteArray × Int)} : ValV vs [] := fun j h => absurd h (by simp)
theorem ValV.snoc {vs : List (ByteArray × Int)} {xs : List Int} {x : Int} (h : ValV vs xs) (h0 : 0 ≤ x) (h1 : x ≤ vL vs xs.length - 1) : ValV vs (xs ++ [x]) := fun j hj => by
  rcases Nat.lt_or_ge j xs.length with h2 | h2
  · rw [List.getElem?_append_left h2]; exact h j h2
  · obtain rfl : j = xs.length := by simp at hj; omega
    rw [List.getElem?_append_right (by omega), Nat.sub_self]
    exact ⟨h0, h1⟩
theorem ValV.ok {vs : List (ByteArray × Int)} {xs : List Int} (h : ValV vs xs) (hl : xs.length = vs.length) : valsB vs xs = true := by
  unfold valsB
  rw [decide_eq_true hl, allTo_yes fun i hi => inR_yes (h i (by omega)).1 (h i (by omega)).2]; rfl
/-- Drawn values of a valid schema. -/
def DVal (vs : List (ByteArray × Int)) (g L n : Nat) (w : World) (e : Ending) (w' : World) : Prop := ∃ (A : Option Addr) (c : Nat) (xs : List Int), e = .returned (.slice A n c) ∧ Hid (valsB vs xs = true) ∧ OwnI w' w.heap.size w'.heap.size A n c xs ∧ Cur w' g L ∧ Chg g (g + 1) w w'

set_option maxRecDepth 100000 in
set_option maxHeartbeats 4000000 in
theorem valuesV_any (g L lo n c : Nat) (A : Option Addr) (vs : List (ByteArray × Int)) (w : World) (h : Cur w g L) (hL : L ≤ 800000) (hs : DVr w lo A n c vs) (hlo : g < lo) (hn : n ≤ 8) (hsv : SchV vs) :
    Calls Tryz.prog 220 #[.pointer (some ⟨g, 0, none⟩), .slice A n c] w (DVal vs g (L + 16) n w) := by
  have hlt := h.lt
  have hlen := hs.len
  have hbd := Lib.hid (fun j (hj : j < n) => hs.bd.at_ (j := j) (by rw [hlen]; exact hj))
  have HS := Lib.hid hs
  have HSV := Lib.hid hsv
  have HLN := Lib.hid hlen
  clear hs hlen hsv
  go_enter Tryz.func220, Tryz.ntmps220
  go_wp2_with fail
  go_loopw [5, 10] (fun a i wr => ∃ (k : Nat) (E : Option Addr) (c3 : Nat) (xs : List Int), k ≤ n ∧ i = .int .i64 k ∧ a = .slice E k c3 ∧ Hid (ValV vs xs) ∧ OwnI wr w.heap.size wr.heap.size E k c3 xs ∧ Cur wr g (L + 2 * k) ∧ Chg g (g + 1) w wr) (fun _ i _ => n - (intOf i).toNat)
  case atStart => exact ⟨0, none, 0, [], Nat.zero_le _, rfl, rfl, Lib.hid ValV.nil_, ⟨Own.nil_, (fun k hk => by cases hk), by omega⟩, h.mono (by omega), Chg.refl _ _ _⟩
  case round =>
    clear h
    obtain ⟨k, E, c3, xs, hk, rfl, rfl, HVV, hO, hc, hG⟩ := hrel
    obtain ⟨wo, rfl⟩ : ∃ wo : World, wo = wr := ⟨_, rfl⟩
    have hz := hG.size
    by_cases hlt2 : k < n
    · obtain ⟨ad, rfl, c0, c1⟩ := ((HS.out.chg hG hlo).vars (by omega)).at_ hlt2
      obtain ⟨l0, l1, _⟩ := hbd.out k hlt2
      have l2 := (HSV.out k (by rw [HLN.out]; exact hlt2)).2.1
      obtain ⟨y, hye⟩ : ∃ y, vL vs k = y := ⟨_, rfl⟩
      obtain ⟨s, hse⟩ : ∃ s, vN vs k = s := ⟨_, rfl⟩
      rw [hye] at c1 l0 l1 l2
      have HY := Lib.hid hye
      rw [hse] at c0
      have b1 := below_new wo (.cells #[.string s, .int .i64 y] 133)
      have hc1 := hc.below b1
      have hG1 := hG.then_ b1
      have hO1 := hO.below b1
      have hz1 := b1.size
      have x1 := box_new wo #[.string s, .int .i64 y] 133
      clear hye hse hc hG b1
      go_wp2_with fail
      generalize wo.alloc (.cells #[.string s, .int .i64 y] 133) = w1 at *
      refine (pick_any g _ _ _ hc1 (by omega) (by omega)).mono ?_
      rintro e w5 ⟨u, rfl, hu0, hu1, hc5, hg5⟩
      have hu3 : u ≤ y - 1 := by split at hu1 <;> omega
      clear hu1
      have hO5 := hO1.chg hg5 (by omega)
      have hXL := hO5.own.len
      have hG5 := hG1.trans hg5
      have hz5 := hg5.size
      clear hc1 hG1 hO1 hg5 c0 c1 x1
      go_wp2_with (at_builtin; refine wp_app1 rfl _ _ rfl w.heap.size E k c3 _ rfl hO5.own _ rfl rfl (by omega) (by omega) ?_; intro A3 c4 w6 hown2 hg2 _)
      have hrow : ∀ j, rowOf E = some j → w.heap.size ≤ j := fun j hj => (hO5.row j hj).1
      have hc6 := cur_app hc5 hg2 (fun j hj => by have := hrow j hj; omega)
      have hG6 := chg_app hG5 hg2 hrow
      have hO6 := OwnI.of_own hown2 (by omega)
      clear hO5 hc5 hG5 hg2 hown2 hO
      go_roundw
      case rel => exact ⟨k + 1, A3, c4, _, by omega, by go_num, rfl, Lib.hid (HVV.out.snoc hu0 (by rw [hXL, HY.out]; exact hu3)), hO6, hc6.mono (by omega), hG6⟩
      case measure => simp [intOf]; omega
    · obtain rfl : n = k := by omega
      go_wp2
      go_ret
      exact ⟨E, c3, xs, rfl, Lib.hid (HVV.out.ok (by rw [hO.own.len, HLN.out])), hO, hc.mono (by omega), hG⟩
end

section
open Go.RowKit

/-- A drawn row of records: the values are rows of the call's own. -/
structure DRq (G : RecD → Prop) (w : World) (lo : Nat) (A : Option Addr) (n c : Nat) : Prop where
  cells : ∃ ys, w.ownsRow lo 135 3 (.slice A n c) n ys ∧ ∀ j, j < n → ∃ (x y : Int) (V : Option Addr) (m cv : Nat) (xs : List Int), ys[j * 3]? = some (.int .i64 x) ∧ ys[j * 3 + 1]? = some (.int .i64 y) ∧ ys[j * 3 + 2]? = some (.slice V m cv) ∧ OwnI w lo w.heap.size V m cv xs ∧ m ≤ 1000 ∧ G ⟨x, y, xs⟩
section
variable {G : RecD → Prop} {w w' : World} {A : Option Addr} {n c lo : Nat}
theorem DRq.nil_ {G : RecD → Prop} {w : World} {lo : Nat} : DRq G w lo none 0 0 := ⟨⟨[], World.ownsRow_nil _ _ _ _, fun j hj => absurd hj (by omega)⟩⟩
theorem DRq.chg {g : Nat} (h : DRq G w lo A n c) (hc : Chg g (g + 1) w w') (hg : g < lo) : DRq G w' lo A n c := by
  obtain ⟨ys, h1, h2⟩ := h.cells
  refine ⟨⟨ys, row_chg h1 hc hg, fun j hj => ?_⟩⟩
  obtain ⟨x, y, V, m, cv, xs, e0, e1, e2, hv, hm⟩ := h2 j hj
  exact ⟨x, y, V, m, cv, xs, e0, e1, e2, hv.chgT hc hg, hm⟩
theorem DRq.below (h : DRq G w lo A n c) (hb : Below w.heap.size w w') : DRq G w' lo A n c := by
  obtain ⟨ys, h1, h2⟩ := h.cells
  refine ⟨⟨ys, row_below h1 hb, fun j hj => ?_⟩⟩
  obtain ⟨x, y, V, m, cv, xs, e0, e1, e2, hv, hm⟩ := h2 j hj
  exact ⟨x, y, V, m, cv, xs, e0, e1, e2, ⟨(hv.below hb).own, fun k hk => Nat.lt_of_lt_of_le (hv.top k hk) hb.size, hv.small⟩, hm⟩
theorem DRq.mono {lo' : Nat} (h : DRq G w lo A n c) (hl : lo' ≤ lo) : DRq G w lo' A n c := by
  obtain ⟨ys, h1, h2⟩ := h.cells
  refine ⟨⟨ys, row_mono h1 hl, fun j hj => ?_⟩⟩
  obtain ⟨x, y, V, m, cv, xs, e0, e1, e2, hv, hm⟩ := h2 j hj
  exact ⟨x, y, V, m, cv, xs, e0, e1, e2, ⟨hv.own.mono hl, hv.top, hv.small⟩, hm⟩
theorem DRq.recs (h : DRq G w lo A n c) (hn : n ≤ 1000) : ∃ rs, DatR w A n rs ∧ ∀ j, j < n → G (rX rs j) := by
  obtain ⟨ys, ho, h2⟩ := h.cells
  obtain ⟨zs, hzl, hz⟩ := list_ofR (α := RecD) (Q := fun j p => ys[j * 3]? = some (.int .i64 p.area) ∧ ys[j * 3 + 1]? = some (.int .i64 p.house) ∧ (∃ V m cv, ys[j * 3 + 2]? = some (.slice V m cv) ∧ OwnI w lo w.heap.size V m cv p.vals ∧ m ≤ 1000 ∧ G p)) n (fun j hj => by
    obtain ⟨x, y, V, m, cv, xs, e0, e1, e2, hv, hm⟩ := h2 j hj
    exact ⟨⟨x, y, xs⟩, e0, e1, V, m, cv, e2, hv, hm⟩)
  refine ⟨zs, ⟨⟨hzl, fun hn0 => ?_⟩, fun j hj => ?_, by omega⟩, fun j hj => ?_⟩
  · obtain ⟨g, rfl, _, _⟩ := row_head ho hn0
    have hl := ho.1
    refine ⟨_, rfl, fun j hj => ?_⟩
    obtain ⟨p, e, h0, h1, V, m, cv, h3, hv, _⟩ := hz j hj
    rw [addr_add0]
    simp only [rA, rH, rV, rX, e, Option.getD_some]
    exact ⟨(World.ownsRow.cellAt ho (j * 3) (by omega)).trans h0, (World.ownsRow.cellAt ho (j * 3 + 1) (by omega)).trans h1, V, m, cv, (World.ownsRow.cellAt ho (j * 3 + 2) (by omega)).trans h3, hv.ints⟩
  · obtain ⟨p, e, _, _, V, m, cv, _, hv, hm⟩ := hz j hj
    simp only [rV, rX, e, Option.getD_some]
    have := hv.ints.1
    have := hm.1
    omega
  · obtain ⟨p, e, _, _, V, m, cv, _, _, hm⟩ := hz j hj
    simp only [rX, e, Option.getD_some]
    exact hm.2
/-- One record more. -/
theorem DRq.snoc {A2 V : Option Addr} {c2 m cv : Nat} {x y : Int} {xs : List Int} {ys : List Value} (ho : w.ownsRow lo 135 3 (.slice A n c) n ys) (h2 : ∀ j, j < n → ∃ (x y : Int) (V : Option Addr) (m cv : Nat) (xs : List Int), ys[j * 3]? = some (.int .i64 x) ∧ ys[j * 3 + 1]? = some (.int .i64 y) ∧ ys[j * 3 + 2]? = some (.slice V m cv) ∧ OwnI w lo w.heap.size V m cv xs ∧ m ≤ 1000 ∧ G ⟨x, y, xs⟩)
    (hv : OwnI w lo w.heap.size V m cv xs) (hm : m ≤ 1000) (hG : G ⟨x, y, xs⟩) (hg : w.grownBy w' (rowOf A)) (hn : w'.ownsRow lo 135 3 (.slice A2 (n + 1) c2) (n + 1) (ys ++ [.int .i64 x, .int .i64 y, .slice V m cv])) : DRq G w' lo A2 (n + 1) c2 := by
  have hl := ho.1
  have far : ∀ {V : Option Addr} {m cv : Nat} {xs : List Int}, OwnI w lo w.heap.size V m cv xs → OwnI w' lo w'.heap.size V m cv xs := fun {V m cv xs} hv => by
    refine OwnI.of_own (hv.own.far hg fun g hA e => ?_) hv.small
    exact row_ne2 hv.own ho (by decide) (by rw [hA]; rfl) e
  refine ⟨⟨_, hn, fun j hj => ?_⟩⟩
  rcases Nat.lt_or_ge j n with h | h
  · obtain ⟨x, y, V, m, cv, xs, e0, e1, e2, hv, hm⟩ := h2 j h
    exact ⟨x, y, V, m, cv, xs, by rw [List.getElem?_append_left (by omega)]; exact e0, by rw [List.getElem?_append_left (by omega)]; exact e1, by rw [List.getElem?_append_left (by omega)]; exact e2, far hv, hm⟩
  · obtain rfl : j = n := by omega
    refine ⟨x, y, V, m, cv, xs, ?_, ?_, ?_, far hv, hm, hG⟩
    · rw [List.getElem?_append_right (by omega), hl, Nat.sub_self]; rfl
    · rw [List.getElem?_append_right (by omega), hl]; simp [show j * 3 + 1 - j * 3 = 1 by omega]
    · rw [List.getElem?_append_right (by omega), hl]; simp [show j * 3 + 2 - j * 3 = 2 by omega]
end
/-- A drawn element of a list. -/
def DIn (xs : List Int) (g L : Nat) (w : World) (e : Ending) (w' : World) : Prop := ∃ x : Int, e = .returned (.int .i64 x) ∧ x ∈ xs ∧ Cur w' g L ∧ Chg g (g + 1) w w'

set_option maxHeartbeats 400000 in
theorem amongM_any (g L : Nat) (A : Option Addr) (n c lo' hi' : Nat) (xs : List Int) (w : World) (h : Cur w g L) (hL : L ≤ 900000000) (ho : OwnI w lo' hi' A n c xs) (hg : g < lo') (hn : 1 ≤ n) (hn2 : n ≤ 1000000) :
    Calls Tryz.prog 86 #[.pointer (some ⟨g, 0, none⟩), .slice A n c] w (DIn xs g (L + 2) w) := by
  have hlt := h.lt
  go_enter Tryz.func86, Tryz.ntmps86
  go_wp2_with fail
  refine (pick_any _ _ _ _ h hL (by omega)).mono ?_
  rintro e w1 ⟨v, rfl, hv0, hv1, hc1, hg1⟩
  have hv2 : v < n := by
    split at hv1 <;> omega
  clear hv1
  obtain ⟨k, rfl⟩ := Int.eq_ofNat_of_zero_le hv0
  have hk : k < n := by omega
  obtain ⟨ad, rfl, hc⟩ := (ho.chg hg1 (.inr (by omega))).ints.at_ hk
  have hbk := Lib.hid (show xs[k]?.getD 0 ∈ xs by rw [List.getElem?_eq_getElem (by have := ho.own.len; omega), Option.getD_some]; exact List.getElem_mem _)
  obtain ⟨x, hxe⟩ : ∃ x, xs[k]?.getD 0 = x := ⟨_, rfl⟩
  rw [hxe] at hc hbk
  clear hxe ho h
  go_wp2
  go_ret
  exact ⟨x, rfl, hbk.out, hc1, hg1⟩

/-- A record as it is drawn. -/
def RecG (vs : List (ByteArray × Int)) (bs : List Int) (r : RecD) : Prop := r.area ∈ bs ∧ (0 ≤ r.house ∧ r.house ≤ 5) ∧ valsB vs r.vals = true
def DRecV (vs : List (ByteArray × Int)) (bs : List Int) (n g L : Nat) (w : World) (e : Ending) (w' : World) : Prop := ∃ (x y : Int) (V : Option Addr) (cv : Nat) (xs : List Int), e = .returned (.agg #[.int .i64 x, .int .i64 y, .slice V n cv]) ∧ Hid (RecG vs bs ⟨x, y, xs⟩) ∧ OwnI w' w.heap.size w'.heap.size V n cv xs ∧ Cur w' g L ∧ Chg g (g + 1) w w'

set_option maxRecDepth 100000 in
set_option maxHeartbeats 4000000 in
theorem recordV_any (g L lo n c la ha nb cb : Nat) (A B : Option Addr) (vs : List (ByteArray × Int)) (bs : List Int) (w : World) (h : Cur w g L) (hL : L ≤ 700000) (os : DVr w lo A n c vs) (hlo : g < lo) (hn : n ≤ 8) (ob : OwnI w la ha B nb cb bs) (hla : g < la) (hnb : 1 ≤ nb) (hnb2 : nb ≤ 1000) (hsv : SchV vs) :
    Calls Tryz.prog 216 #[.pointer (some ⟨g, 0, none⟩), .slice A n c, .slice B nb cb] w (DRecV vs bs n g (L + 20) w) := by
  have hlt := h.lt
  have b0 := below_new w (.cells #[.int .i64 0, .int .i64 0, .slice none 0 0] 135)
  have xr := box_new w #[.int .i64 0, .int .i64 0, .slice none 0 0] 135
  have hc0 := h.below b0
  have hG0 : Chg g (g + 1) w (w.alloc (.cells #[.int .i64 0, .int .i64 0, .slice none 0 0] 135)) := Chg.of_below b0
  have HS := Lib.hid (show (w.alloc (.cells #[.int .i64 0, .int .i64 0, .slice none 0 0] 135)).heap.size = w.heap.size + 1 by simp)
  have HSV := Lib.hid hsv
  replace os := os.below b0
  replace ob := ob.below b0
  clear h b0 hsv
  go_enter Tryz.func216, Tryz.ntmps216
  go_wp2_with fail
  generalize w.alloc (.cells #[.int .i64 0, .int .i64 0, .slice none 0 0] 135) = w1 at *
  refine (amongM_any g _ _ _ _ _ _ bs _ hc0 (by omega) ob (by omega) hnb (by omega)).mono ?_
  rintro e w2 ⟨x, rfl, hxm, hc2, hg2⟩
  replace hxm := Lib.hid hxm
  replace os := os.chg hg2 hlo
  replace xr := box_chg xr hg2 (by omega)
  have hG2 := hG0.trans hg2
  have z2 := hg2.size
  clear hc0 hG0 hg2 ob
  go_wp2_with fail
  refine (pick_any g _ _ _ hc2 (by omega) (by omega)).mono ?_
  rintro e w3 ⟨y, rfl, hy0, hy1, hc3, hg3⟩
  have HYB := Lib.hid (show 0 ≤ y ∧ y ≤ 5 from ⟨hy0, by simpa using hy1⟩)
  clear hy0 hy1
  replace os := os.chg hg3 hlo
  replace xr := box_chg xr hg3 (by omega)
  have hG3 := hG2.trans hg3
  have z3 := hg3.size
  clear hc2 hG2 hg3
  go_wp2_with fail
  refine (valuesV_any g _ lo n c A vs _ hc3 (by omega) os hlo hn HSV.out).mono ?_
  rintro e w4 ⟨V, cv, xs, rfl, hvl, ov, hc4, hg4⟩
  replace xr := box_chg xr hg4 (by omega)
  have hG4 := hG3.trans hg4
  have z4 := hg4.size
  have hs1 : w.heap.size + 1 ≤ w1.heap.size := by have := HS.out; omega
  clear hc3 hG3 hg4 os
  have p0 := bxc xr 0 _ rfl
  have p1 := bxc xr 1 _ rfl
  have p2 := bxc xr 2 _ rfl
  have f0 := bxf xr 0
  have f1 := bxf xr 1
  have f2 := bxf xr 2
  have y3 := box_set (box_set (box_set xr 0 (.int .i64 x)) 1 (.int .i64 y)) 2 (.slice V n cv)
  have r0 := bxc y3 0 (.int .i64 x) rfl
  have r1 := bxc y3 1 (.int .i64 y) rfl
  have r2 := bxc y3 2 (.slice V n cv) rfl
  have l0 := lt_of_block xr
  go_wp2
  refine bodyPost_ret (v := .agg #[.int .i64 x, .int .i64 y, .slice V n cv]) (by simp [results, Tryz.results216, go_sem, r0, r1, r2]) rfl ⟨x, y, V, cv, xs, rfl, Lib.hid ⟨hxm.out, HYB.out, hvl.out⟩, ?_, ?_, ((hG4.setNewD (by simp) _).setNewD (by simp) _).setNewD (by simp) _⟩
  · have hk := (((Chg.refl w.heap.size (w.heap.size + 1) w4).set (g := w.heap.size) (i := 0) (v := .int .i64 x) (by omega) (by omega)).set (g := w.heap.size) (i := 1) (v := .int .i64 y) (by omega) (by omega)).set (g := w.heap.size) (i := 2) (v := .slice V n cv) (by omega) (by omega)
    exact (ov.chg hk (.inr (by omega))).fit (by omega)
  · exact (((hc4.far (p := ⟨w.heap.size, 0, none⟩) hlt _).far (p := ⟨w.heap.size, 1, none⟩) hlt _).far (p := ⟨w.heap.size, 2, none⟩) hlt _).mono (by omega)

set_option maxRecDepth 100000 in
set_option maxHeartbeats 4000000 in
theorem dataV_any (g L lo n c la ha nb cb : Nat) (A B : Option Addr) (vs : List (ByteArray × Int)) (bs : List Int) (w : World) (h : Cur w g L) (hL : L ≤ 600000) (os : DVr w lo A n c vs) (hlo : g < lo) (hn : n ≤ 8) (ob : OwnI w la ha B nb cb bs) (hla : g < la) (hnb : 1 ≤ nb) (hnb2 : nb ≤ 1000) (hsv : SchV vs) :
    Calls Tryz.prog 209 #[.pointer (some ⟨g, 0, none⟩), .slice A n c, .slice B nb cb] w (fun e w' => ∃ (A : Option Addr) (m c : Nat), e = .returned (.slice A m c) ∧ m ≤ 22 ∧ DRq (RecG vs bs) w' w.heap.size A m c ∧ Cur w' g (L + 300) ∧ Chg g (g + 1) w w') := by
  obtain ⟨i0, hi, hz0, hz1, hz2⟩ := info_parts Tryz.infoRecord
  have hlt := h.lt
  have HSV := Lib.hid hsv
  have OS := Lib.hid os
  have OB := Lib.hid ob
  clear os ob hsv
  go_enter Tryz.func209, Tryz.ntmps209
  go_wp2_with fail
  refine (pick_any g _ _ _ h (by omega) (by omega)).mono ?_
  rintro e w0 ⟨v, rfl, hv0, hv1, hc0, hg0⟩
  replace hv1 : v ≤ 11 := by simpa using hv1
  obtain ⟨kk, hkk⟩ := Int.eq_ofNat_of_zero_le hv0
  subst hkk
  have hk11 : kk ≤ 11 := by omega
  clear hv0 hv1 h
  go_wp2_with fail
  go_loopw [7, 8] (fun a i wr => ∃ (k m : Nat) (E : Option Addr) (ce : Nat), i = .int .i64 k ∧ a = .slice E m ce ∧ k ≤ 11 ∧ m + 2 * k ≤ 22 ∧ DRq (RecG vs bs) wr w.heap.size E m ce ∧ Cur wr g (L + 2 + 24 * (11 - k)) ∧ Chg g (g + 1) w wr) (fun _ i _ => (intOf i).toNat)
  case atStart => exact ⟨kk, 0, none, 0, rfl, rfl, hk11, by omega, DRq.nil_, hc0.mono (by omega), hg0⟩
  case round =>
    clear hc0 hg0 hk11
    obtain ⟨k, m, E, ce, rfl, rfl, hk, hmk, hD, hc, hG⟩ := hrel
    obtain ⟨wo, rfl⟩ : ∃ wo : World, wo = wr := ⟨_, rfl⟩
    have hz := hG.size
    by_cases h0 : 0 < k
    · have hd : decide ((0 : Int) < (k : Int)) = true := by simpa using h0
      have hos := OS.out.chg hG hlo
      have hob := OB.out.chg hG (.inr (by omega))
      go_wp2_with fail
      refine (recordV_any g _ lo n c la ha nb cb A B vs bs _ hc (by omega) hos hlo hn hob hla hnb hnb2 HSV.out).mono ?_
      rintro e w1 ⟨x, y, V, cv, xs, rfl, hrg, ov, hc1, hg1⟩
      have D1 := hD.chg hg1 (by omega)
      have hG1 := hG.trans hg1
      have z1 := hg1.size
      have ov1 : OwnI w1 w.heap.size w1.heap.size V n cv xs := ov.fit (by omega)
      clear hD hc hG hg1 ov hos hob
      have b2 := below_new w1 (.cells #[.int .i64 x, .int .i64 y, .slice V n cv] 135)
      have x2 := box_new w1 #[.int .i64 x, .int .i64 y, .slice V n cv] 135
      have D2 := D1.below b2
      have hc2 := hc1.below b2
      have hG2 := hG1.then_ b2
      have z2 := b2.size
      have ov2 : OwnI (w1.alloc (.cells #[.int .i64 x, .int .i64 y, .slice V n cv] 135)) w.heap.size (w1.alloc (.cells #[.int .i64 x, .int .i64 y, .slice V n cv] 135)).heap.size V n cv xs := (ov1.below b2).fit (Nat.le_refl _)
      have hrw : ∀ j, rowOf E = some j → j < w1.heap.size := fun j hj => by obtain ⟨ys, ho, _⟩ := D1.cells; exact (row_ge ho j hj).2
      clear D1 hc1 hG1 ov1 b2
      obtain ⟨ys3, ho3, hr3⟩ := D2.cells
      have HR3 := Lib.hid hr3
      have hrow3 : ∀ j, rowOf E = some j → w.heap.size ≤ j ∧ j < (w1.alloc (.cells #[.int .i64 x, .int .i64 y, .slice V n cv] 135)).heap.size := fun j hj => row_ge ho3 j hj
      have HV3 := Lib.hid ov2
      clear hr3 D2
      go_wp2_with (at_builtin; refine wp_appG (cs := #[.int .i64 x, .int .i64 y, .slice V n cv]) rfl _ _ rfl Tryz.underlying38 hi hz0 hz1 hz2 rfl (by omega) (by omega) rfl (by simp [Value.oneCell']) w.heap.size E m ce ys3 rfl ho3 _ rfl (by simp) (by omega) (by omega) ?_; intro A3 c3 w3 own3 grow3 _; have D3 := Lib.hid (DRq.snoc (x := x) (y := y) ho3 HR3.out HV3.out (by omega) hrg.out grow3 own3); have hc3 := Lib.hid (cur_app hc2 grow3 (fun j hj => by have := hrow3 j hj; omega)); have hG3 := Lib.hid (chg_app hG2 grow3 (fun j hj => (hrow3 j hj).1)); have z3 := grow3.size; have x3 := Lib.hid (box_app2 x2 grow3 (fun e => by have := hrw _ e; omega)); have hv3 := Lib.hid (show OwnI w3 w.heap.size w3.heap.size V n cv xs from OwnI.of_own (HV3.out.own.far grow3 (fun q hA e => row_ne2 HV3.out.own ho3 (by decide) (by rw [hA]; rfl) e)) HV3.out.small))
      refine (one_any g _ _ _ hc3.out (by omega) (by omega)).mono ?_
      rintro e w4 ⟨b, rfl, hc4, hg4⟩
      have D4 := D3.out.chg hg4 (by omega)
      have hG4 := hG3.out.trans hg4
      have z4 := hg4.size
      have x4 := box_chg x3.out hg4 (by omega)
      have ov4 : OwnI w4 w.heap.size w4.heap.size V n cv xs := hv3.out.chgT hg4 (by omega)
      clear D3 hc3 hG3 x3 hv3 HR3 HV3 ho3 own3 grow3 hc2 hG2 x2 hrow3 hrw hg4
      cases b
      · clear x4 ov4
        go_wp2
        go_roundw
        case rel => exact ⟨k - 1, m + 1, A3, c3, by go_num, rfl, by omega, by omega, D4, hc4.mono (by omega), hG4⟩
        case measure => simp [intOf]; omega
      · have q0 := bxc x4 0 _ rfl
        have q1 := bxc x4 1 _ rfl
        have q2 := bxc x4 2 _ rfl
        go_wp2_with fail
        refine (rOwn_any x y V n cv xs _ ov4.ints (by omega)).mono ?_
        rintro e w5 ⟨V5, c5, rfl, o5, b5⟩
        have D5 := D4.below b5
        have hc5 := hc4.below b5
        have hG5 := hG4.then_ b5
        have z5 := b5.size
        have ov5 : OwnI w5 w.heap.size w5.heap.size V5 n c5 xs := o5.fit (by omega)
        clear D4 hc4 hG4 x4 ov4 q0 q1 q2 b5 o5
        obtain ⟨ys6, ho6, hr6⟩ := D5.cells
        have HR6 := Lib.hid hr6
        have hrow6 : ∀ j, rowOf A3 = some j → w.heap.size ≤ j ∧ j < w5.heap.size := fun j hj => row_ge ho6 j hj
        have HV6 := Lib.hid ov5
        clear hr6 D5
        go_wp2_with (at_builtin; refine wp_appG (cs := #[.int .i64 x, .int .i64 y, .slice V5 n c5]) rfl _ _ rfl Tryz.underlying38 hi hz0 hz1 hz2 rfl (by omega) (by omega) rfl (by simp [Value.oneCell']) w.heap.size A3 (m + 1) c3 ys6 rfl ho6 _ rfl (by simp) (by omega) (by omega) ?_; intro A6 c6 w6 own6 grow6 _; have D6 := Lib.hid (DRq.snoc (x := x) (y := y) ho6 HR6.out HV6.out (by omega) hrg.out grow6 own6); have hc6 := Lib.hid (cur_app hc5 grow6 (fun j hj => by have := hrow6 j hj; omega)); have hG6 := Lib.hid (chg_app hG5 grow6 (fun j hj => (hrow6 j hj).1)); have z6 := grow6.size)
        go_roundw
        case rel => exact ⟨k - 1, m + 1 + 1, A6, c6, by go_num, rfl, by omega, by omega, D6.out, hc6.out.mono (by omega), hG6.out⟩
        case measure => simp [intOf]; omega
    · obtain rfl : k = 0 := by omega
      have hm2 : m ≤ 22 := by omega
      have hc9 := hc.mono (show L + 2 + 24 * (11 - 0) ≤ L + 300 by omega)
      clear hc h0
      go_wp2
      go_ret
      exact ⟨E, m, ce, rfl, hm2, hD, hc9, hG⟩
end

section
open Go.RowKit

theorem geo_snoc {ps : List Int} {x : Int} (h : geoB ps = true) (hl : ps.length ≤ 29) (h0 : 0 ≤ x) (h1 : x < ps.length) : geoB (ps ++ [x]) = true := by
  have hg := geoB_of h
  have hz : 0 < ps.length := by omega
  refine geoB_4 (inR_yes (by simp; omega) (by simp; omega)) ?_ (allTo_yes fun i hi => ?_)
  · have : gP ps 0 = -1 := by
      unfold geoB at h
      simp only [Bool.and_eq_true, decide_eq_true_eq] at h
      exact h.2.1
    unfold gP at this ⊢
    rw [List.getElem?_append_left hz]; exact this
  · unfold parOk gP
    rcases Nat.lt_or_ge i ps.length with h2 | h2
    · rw [List.getElem?_append_left h2]
      unfold geoB at h
      simp only [Bool.and_eq_true] at h
      exact allTo_of h.2.2 i h2
    · obtain rfl : i = ps.length := by simp at hi; omega
      rw [List.getElem?_append_right (by omega), Nat.sub_self]
      have : inR ((([x] : List Int)[0]?).getD 0) 0 ((ps.length : Int) - 1) = true := inR_yes h0 (by show x ≤ _; omega)
      rw [this, Bool.or_true]
theorem geo_world (w : World) : Below w.heap.size w ((((((((w.alloc (.cells #[.slice none 0 0] 36)).alloc (.cells #[.int .i64 (-1), .int .i64 0, .int .i64 0] 3)).alloc (.cells #[.int .i64 (-1), .int .i64 0, .int .i64 0, .int .i64 1, .int .i64 1, .int .i64 2, .int .i64 2] 3)).alloc (.cells #[.int .i64 (-1), .int .i64 0, .int .i64 0, .int .i64 0, .int .i64 1, .int .i64 1, .int .i64 2, .int .i64 3] 3)).alloc (.cells #[.int .i64 (-1), .int .i64 0, .int .i64 0, .int .i64 1, .int .i64 1] 3)).alloc (.cells #[.int .i64 (-1)] 3)).alloc (.cells #[.int .i64 (-1), .int .i64 0, .int .i64 1, .int .i64 2] 3)).alloc (.cells #[.slice (some ⟨w.heap.size + 1, 0, none⟩) 3 3, .slice (some ⟨w.heap.size + 1 + 1, 0, none⟩) 7 7, .slice (some ⟨w.heap.size + 1 + 1 + 1, 0, none⟩) 8 8, .slice (some ⟨w.heap.size + 1 + 1 + 1 + 1, 0, none⟩) 5 5, .slice (some ⟨w.heap.size + 1 + 1 + 1 + 1 + 1, 0, none⟩) 1 1, .slice (some ⟨w.heap.size + 1 + 1 + 1 + 1 + 1 + 1, 0, none⟩) 4 4] 22)) ∧ ((((((((w.alloc (.cells #[.slice none 0 0] 36)).alloc (.cells #[.int .i64 (-1), .int .i64 0, .int .i64 0] 3)).alloc (.cells #[.int .i64 (-1), .int .i64 0, .int .i64 0, .int .i64 1, .int .i64 1, .int .i64 2, .int .i64 2] 3)).alloc (.cells #[.int .i64 (-1), .int .i64 0, .int .i64 0, .int .i64 0, .int .i64 1, .int .i64 1, .int .i64 2, .int .i64 3] 3)).alloc (.cells #[.int .i64 (-1), .int .i64 0, .int .i64 0, .int .i64 1, .int .i64 1] 3)).alloc (.cells #[.int .i64 (-1)] 3)).alloc (.cells #[.int .i64 (-1), .int .i64 0, .int .i64 1, .int .i64 2] 3)).alloc (.cells #[.slice (some ⟨w.heap.size + 1, 0, none⟩) 3 3, .slice (some ⟨w.heap.size + 1 + 1, 0, none⟩) 7 7, .slice (some ⟨w.heap.size + 1 + 1 + 1, 0, none⟩) 8 8, .slice (some ⟨w.heap.size + 1 + 1 + 1 + 1, 0, none⟩) 5 5, .slice (some ⟨w.heap.size + 1 + 1 + 1 + 1 + 1, 0, none⟩) 1 1, .slice (some ⟨w.heap.size + 1 + 1 + 1 + 1 + 1 + 1, 0, none⟩) 4 4] 22)).heap[w.heap.size]? = some (.cells #[.slice none 0 0] 36 (0, 0)) ∧ ((((((((w.alloc (.cells #[.slice none 0 0] 36)).alloc (.cells #[.int .i64 (-1), .int .i64 0, .int .i64 0] 3)).alloc (.cells #[.int .i64 (-1), .int .i64 0, .int .i64 0, .int .i64 1, .int .i64 1, .int .i64 2, .int .i64 2] 3)).alloc (.cells #[.int .i64 (-1), .int .i64 0, .int .i64 0, .int .i64 0, .int .i64 1, .int .i64 1, .int .i64 2, .int .i64 3] 3)).alloc (.cells #[.int .i64 (-1), .int .i64 0, .int .i64 0, .int .i64 1, .int .i64 1] 3)).alloc (.cells #[.int .i64 (-1)] 3)).alloc (.cells #[.int .i64 (-1), .int .i64 0, .int .i64 1, .int .i64 2] 3)).alloc (.cells #[.slice (some ⟨w.heap.size + 1, 0, none⟩) 3 3, .slice (some ⟨w.heap.size + 1 + 1, 0, none⟩) 7 7, .slice (some ⟨w.heap.size + 1 + 1 + 1, 0, none⟩) 8 8, .slice (some ⟨w.heap.size + 1 + 1 + 1 + 1, 0, none⟩) 5 5, .slice (some ⟨w.heap.size + 1 + 1 + 1 + 1 + 1, 0, none⟩) 1 1, .slice (some ⟨w.heap.size + 1 + 1 + 1 + 1 + 1 + 1, 0, none⟩) 4 4] 22)).heap.size = w.heap.size + 1 + 1 + 1 + 1 + 1 + 1 + 1 + 1 ∧ ∀ k, k < 6 → ∃ (b m : Nat) (xs : List Int), ((((((((w.alloc (.cells #[.slice none 0 0] 36)).alloc (.cells #[.int .i64 (-1), .int .i64 0, .int .i64 0] 3)).alloc (.cells #[.int .i64 (-1), .int .i64 0, .int .i64 0, .int .i64 1, .int .i64 1, .int .i64 2, .int .i64 2] 3)).alloc (.cells #[.int .i64 (-1), .int .i64 0, .int .i64 0, .int .i64 0, .int .i64 1, .int .i64 1, .int .i64 2, .int .i64 3] 3)).alloc (.cells #[.int .i64 (-1), .int .i64 0, .int .i64 0, .int .i64 1, .int .i64 1] 3)).alloc (.cells #[.int .i64 (-1)] 3)).alloc (.cells #[.int .i64 (-1), .int .i64 0, .int .i64 1, .int .i64 2] 3)).alloc (.cells #[.slice (some ⟨w.heap.size + 1, 0, none⟩) 3 3, .slice (some ⟨w.heap.size + 1 + 1, 0, none⟩) 7 7, .slice (some ⟨w.heap.size + 1 + 1 + 1, 0, none⟩) 8 8, .slice (some ⟨w.heap.size + 1 + 1 + 1 + 1, 0, none⟩) 5 5, .slice (some ⟨w.heap.size + 1 + 1 + 1 + 1 + 1, 0, none⟩) 1 1, .slice (some ⟨w.heap.size + 1 + 1 + 1 + 1 + 1 + 1, 0, none⟩) 4 4] 22)).cell? ⟨w.heap.size + 1 + 1 + 1 + 1 + 1 + 1 + 1, k, none⟩ = some (.slice (some ⟨b, 0, none⟩) m m) ∧ w.heap.size < b ∧ OwnI ((((((((w.alloc (.cells #[.slice none 0 0] 36)).alloc (.cells #[.int .i64 (-1), .int .i64 0, .int .i64 0] 3)).alloc (.cells #[.int .i64 (-1), .int .i64 0, .int .i64 0, .int .i64 1, .int .i64 1, .int .i64 2, .int .i64 2] 3)).alloc (.cells #[.int .i64 (-1), .int .i64 0, .int .i64 0, .int .i64 0, .int .i64 1, .int .i64 1, .int .i64 2, .int .i64 3] 3)).alloc (.cells #[.int .i64 (-1), .int .i64 0, .int .i64 0, .int .i64 1, .int .i64 1] 3)).alloc (.cells #[.int .i64 (-1)] 3)).alloc (.cells #[.int .i64 (-1), .int .i64 0, .int .i64 1, .int .i64 2] 3)).alloc (.cells #[.slice (some ⟨w.heap.size + 1, 0, none⟩) 3 3, .slice (some ⟨w.heap.size + 1 + 1, 0, none⟩) 7 7, .slice (some ⟨w.heap.size + 1 + 1 + 1, 0, none⟩) 8 8, .slice (some ⟨w.heap.size + 1 + 1 + 1 + 1, 0, none⟩) 5 5, .slice (some ⟨w.heap.size + 1 + 1 + 1 + 1 + 1, 0, none⟩) 1 1, .slice (some ⟨w.heap.size + 1 + 1 + 1 + 1 + 1 + 1, 0, none⟩) 4 4] 22)) b (b + 1) (some ⟨b, 0, none⟩) m m xs ∧ Hid (geoB xs = true) ∧ 1 ≤ m ∧ m ≤ 8 := by
  have b0 := below_new w (.cells #[.slice none 0 0] 36)
  have x0 := box_new w #[.slice none 0 0] 36
  have s0 : (w.alloc (.cells #[.slice none 0 0] 36)).heap.size = w.heap.size + 1 := by simp
  generalize w.alloc (.cells #[.slice none 0 0] 36) = w1 at *
  have b1 := b0.trans ((below_new w1 (.cells #[.int .i64 (-1), .int .i64 0, .int .i64 0] 3)).mono (by omega))
  have o1 := own_lit [-1, 0, 0] (box_new w1 _ _) (by decide)
  rw [s0] at o1
  replace x0 := bxb x0 (below_new w1 (.cells #[.int .i64 (-1), .int .i64 0, .int .i64 0] 3))
  have s1 : (w1.alloc (.cells #[.int .i64 (-1), .int .i64 0, .int .i64 0] 3)).heap.size = w.heap.size + 1 + 1 := by simp [s0]
  change OwnI (w1.alloc (.cells #[.int .i64 (-1), .int .i64 0, .int .i64 0] 3)) _ _ _ _ _ _ at o1
  generalize w1.alloc (.cells #[.int .i64 (-1), .int .i64 0, .int .i64 0] 3) = w2 at *
  clear s0 b0
  have b2 := b1.trans ((below_new w2 (.cells #[.int .i64 (-1), .int .i64 0, .int .i64 0, .int .i64 1, .int .i64 1, .int .i64 2, .int .i64 2] 3)).mono (by omega))
  have o2 := own_lit [-1, 0, 0, 1, 1, 2, 2] (box_new w2 _ _) (by decide)
  rw [s1] at o2
  replace x0 := bxb x0 (below_new w2 (.cells #[.int .i64 (-1), .int .i64 0, .int .i64 0, .int .i64 1, .int .i64 1, .int .i64 2, .int .i64 2] 3))
  replace o1 := o1.below (below_new w2 (.cells #[.int .i64 (-1), .int .i64 0, .int .i64 0, .int .i64 1, .int .i64 1, .int .i64 2, .int .i64 2] 3))
  have s2 : (w2.alloc (.cells #[.int .i64 (-1), .int .i64 0, .int .i64 0, .int .i64 1, .int .i64 1, .int .i64 2, .int .i64 2] 3)).heap.size = w.heap.size + 1 + 1 + 1 := by simp [s1]
  change OwnI (w2.alloc (.cells #[.int .i64 (-1), .int .i64 0, .int .i64 0, .int .i64 1, .int .i64 1, .int .i64 2, .int .i64 2] 3)) _ _ _ _ _ _ at o2
  generalize w2.alloc (.cells #[.int .i64 (-1), .int .i64 0, .int .i64 0, .int .i64 1, .int .i64 1, .int .i64 2, .int .i64 2] 3) = w3 at *
  clear s1 b1
  have b3 := b2.trans ((below_new w3 (.cells #[.int .i64 (-1), .int .i64 0, .int .i64 0, .int .i64 0, .int .i64 1, .int .i64 1, .int .i64 2, .int .i64 3] 3)).mono (by omega))
  have o3 := own_lit [-1, 0, 0, 0, 1, 1, 2, 3] (box_new w3 _ _) (by decide)
  rw [s2] at o3
  replace x0 := bxb x0 (below_new w3 (.cells #[.int .i64 (-1), .int .i64 0, .int .i64 0, .int .i64 0, .int .i64 1, .int .i64 1, .int .i64 2, .int .i64 3] 3))
  replace o1 := o1.below (below_new w3 (.cells #[.int .i64 (-1), .int .i64 0, .int .i64 0, .int .i64 0, .int .i64 1, .int .i64 1, .int .i64 2, .int .i64 3] 3))
  replace o2 := o2.below (below_new w3 (.cells #[.int .i64 (-1), .int .i64 0, .int .i64 0, .int .i64 0, .int .i64 1, .int .i64 1, .int .i64 2, .int .i64 3] 3))
  have s3 : (w3.alloc (.cells #[.int .i64 (-1), .int .i64 0, .int .i64 0, .int .i64 0, .int .i64 1, .int .i64 1, .int .i64 2, .int .i64 3] 3)).heap.size = w.heap.size + 1 + 1 + 1 + 1 := by simp [s2]
  change OwnI (w3.alloc (.cells #[.int .i64 (-1), .int .i64 0, .int .i64 0, .int .i64 0, .int .i64 1, .int .i64 1, .int .i64 2, .int .i64 3] 3)) _ _ _ _ _ _ at o3
  generalize w3.alloc (.cells #[.int .i64 (-1), .int .i64 0, .int .i64 0, .int .i64 0, .int .i64 1, .int .i64 1, .int .i64 2, .int .i64 3] 3) = w4 at *
  clear s2 b2
  have b4 := b3.trans ((below_new w4 (.cells #[.int .i64 (-1), .int .i64 0, .int .i64 0, .int .i64 1, .int .i64 1] 3)).mono (by omega))
  have o4 := own_lit [-1, 0, 0, 1, 1] (box_new w4 _ _) (by decide)
  rw [s3] at o4
  replace x0 := bxb x0 (below_new w4 (.cells #[.int .i64 (-1), .int .i64 0, .int .i64 0, .int .i64 1, .int .i64 1] 3))
  replace o1 := o1.below (below_new w4 (.cells #[.int .i64 (-1), .int .i64 0, .int .i64 0, .int .i64 1, .int .i64 1] 3))
  replace o2 := o2.below (below_new w4 (.cells #[.int .i64 (-1), .int .i64 0, .int .i64 0, .int .i64 1, .int .i64 1] 3))
  replace o3 := o3.below (below_new w4 (.cells #[.int .i64 (-1), .int .i64 0, .int .i64 0, .int .i64 1, .int .i64 1] 3))
  have s4 : (w4.alloc (.cells #[.int .i64 (-1), .int .i64 0, .int .i64 0, .int .i64 1, .int .i64 1] 3)).heap.size = w.heap.size + 1 + 1 + 1 + 1 + 1 := by simp [s3]
  change OwnI (w4.alloc (.cells #[.int .i64 (-1), .int .i64 0, .int .i64 0, .int .i64 1, .int .i64 1] 3)) _ _ _ _ _ _ at o4
  generalize w4.alloc (.cells #[.int .i64 (-1), .int .i64 0, .int .i64 0, .int .i64 1, .int .i64 1] 3) = w5 at *
  clear s3 b3
  have b5 := b4.trans ((below_new w5 (.cells #[.int .i64 (-1)] 3)).mono (by omega))
  have o5 := own_lit [-1] (box_new w5 _ _) (by decide)
  rw [s4] at o5
  replace x0 := bxb x0 (below_new w5 (.cells #[.int .i64 (-1)] 3))
  replace o1 := o1.below (below_new w5 (.cells #[.int .i64 (-1)] 3))
  replace o2 := o2.below (below_new w5 (.cells #[.int .i64 (-1)] 3))
  replace o3 := o3.below (below_new w5 (.cells #[.int .i64 (-1)] 3))
  replace o4 := o4.below (below_new w5 (.cells #[.int .i64 (-1)] 3))
  have s5 : (w5.alloc (.cells #[.int .i64 (-1)] 3)).heap.size = w.heap.size + 1 + 1 + 1 + 1 + 1 + 1 := by simp [s4]
  change OwnI (w5.alloc (.cells #[.int .i64 (-1)] 3)) _ _ _ _ _ _ at o5
  generalize w5.alloc (.cells #[.int .i64 (-1)] 3) = w6 at *
  clear s4 b4
  have b6 := b5.trans ((below_new w6 (.cells #[.int .i64 (-1), .int .i64 0, .int .i64 1, .int .i64 2] 3)).mono (by omega))
  have o6 := own_lit [-1, 0, 1, 2] (box_new w6 _ _) (by decide)
  rw [s5] at o6
  replace x0 := bxb x0 (below_new w6 (.cells #[.int .i64 (-1), .int .i64 0, .int .i64 1, .int .i64 2] 3))
  replace o1 := o1.below (below_new w6 (.cells #[.int .i64 (-1), .int .i64 0, .int .i64 1, .int .i64 2] 3))
  replace o2 := o2.below (below_new w6 (.cells #[.int .i64 (-1), .int .i64 0, .int .i64 1, .int .i64 2] 3))
  replace o3 := o3.below (below_new w6 (.cells #[.int .i64 (-1), .int .i64 0, .int .i64 1, .int .i64 2] 3))
  replace o4 := o4.below (below_new w6 (.cells #[.int .i64 (-1), .int .i64 0, .int .i64 1, .int .i64 2] 3))
  replace o5 := o5.below (below_new w6 (.cells #[.int .i64 (-1), .int .i64 0, .int .i64 1, .int .i64 2] 3))
  have s6 : (w6.alloc (.cells #[.int .i64 (-1), .int .i64 0, .int .i64 1, .int .i64 2] 3)).heap.size = w.heap.size + 1 + 1 + 1 + 1 + 1 + 1 + 1 := by simp [s5]
  change OwnI (w6.alloc (.cells #[.int .i64 (-1), .int .i64 0, .int .i64 1, .int .i64 2] 3)) _ _ _ _ _ _ at o6
  generalize w6.alloc (.cells #[.int .i64 (-1), .int .i64 0, .int .i64 1, .int .i64 2] 3) = w7 at *
  clear s5 b5
  have b7 := b6.trans ((below_new w7 (.cells #[.slice (some ⟨w.heap.size + 1, 0, none⟩) 3 3, .slice (some ⟨w.heap.size + 1 + 1, 0, none⟩) 7 7, .slice (some ⟨w.heap.size + 1 + 1 + 1, 0, none⟩) 8 8, .slice (some ⟨w.heap.size + 1 + 1 + 1 + 1, 0, none⟩) 5 5, .slice (some ⟨w.heap.size + 1 + 1 + 1 + 1 + 1, 0, none⟩) 1 1, .slice (some ⟨w.heap.size + 1 + 1 + 1 + 1 + 1 + 1, 0, none⟩) 4 4] 22)).mono (by omega))
  have x7 := box_new w7 #[.slice (some ⟨w.heap.size + 1, 0, none⟩) 3 3, .slice (some ⟨w.heap.size + 1 + 1, 0, none⟩) 7 7, .slice (some ⟨w.heap.size + 1 + 1 + 1, 0, none⟩) 8 8, .slice (some ⟨w.heap.size + 1 + 1 + 1 + 1, 0, none⟩) 5 5, .slice (some ⟨w.heap.size + 1 + 1 + 1 + 1 + 1, 0, none⟩) 1 1, .slice (some ⟨w.heap.size + 1 + 1 + 1 + 1 + 1 + 1, 0, none⟩) 4 4] 22
  rw [s6] at x7
  replace x0 := bxb x0 (below_new w7 (.cells #[.slice (some ⟨w.heap.size + 1, 0, none⟩) 3 3, .slice (some ⟨w.heap.size + 1 + 1, 0, none⟩) 7 7, .slice (some ⟨w.heap.size + 1 + 1 + 1, 0, none⟩) 8 8, .slice (some ⟨w.heap.size + 1 + 1 + 1 + 1, 0, none⟩) 5 5, .slice (some ⟨w.heap.size + 1 + 1 + 1 + 1 + 1, 0, none⟩) 1 1, .slice (some ⟨w.heap.size + 1 + 1 + 1 + 1 + 1 + 1, 0, none⟩) 4 4] 22))
  replace o1 := o1.below (below_new w7 (.cells #[.slice (some ⟨w.heap.size + 1, 0, none⟩) 3 3, .slice (some ⟨w.heap.size + 1 + 1, 0, none⟩) 7 7, .slice (some ⟨w.heap.size + 1 + 1 + 1, 0, none⟩) 8 8, .slice (some ⟨w.heap.size + 1 + 1 + 1 + 1, 0, none⟩) 5 5, .slice (some ⟨w.heap.size + 1 + 1 + 1 + 1 + 1, 0, none⟩) 1 1, .slice (some ⟨w.heap.size + 1 + 1 + 1 + 1 + 1 + 1, 0, none⟩) 4 4] 22))
  replace o2 := o2.below (below_new w7 (.cells #[.slice (some ⟨w.heap.size + 1, 0, none⟩) 3 3, .slice (some ⟨w.heap.size + 1 + 1, 0, none⟩) 7 7, .slice (some ⟨w.heap.size + 1 + 1 + 1, 0, none⟩) 8 8, .slice (some ⟨w.heap.size + 1 + 1 + 1 + 1, 0, none⟩) 5 5, .slice (some ⟨w.heap.size + 1 + 1 + 1 + 1 + 1, 0, none⟩) 1 1, .slice (some ⟨w.heap.size + 1 + 1 + 1 + 1 + 1 + 1, 0, none⟩) 4 4] 22))
  replace o3 := o3.below (below_new w7 (.cells #[.slice (some ⟨w.heap.size + 1, 0, none⟩) 3 3, .slice (some ⟨w.heap.size + 1 + 1, 0, none⟩) 7 7, .slice (some ⟨w.heap.size + 1 + 1 + 1, 0, none⟩) 8 8, .slice (some ⟨w.heap.size + 1 + 1 + 1 + 1, 0, none⟩) 5 5, .slice (some ⟨w.heap.size + 1 + 1 + 1 + 1 + 1, 0, none⟩) 1 1, .slice (some ⟨w.heap.size + 1 + 1 + 1 + 1 + 1 + 1, 0, none⟩) 4 4] 22))
  replace o4 := o4.below (below_new w7 (.cells #[.slice (some ⟨w.heap.size + 1, 0, none⟩) 3 3, .slice (some ⟨w.heap.size + 1 + 1, 0, none⟩) 7 7, .slice (some ⟨w.heap.size + 1 + 1 + 1, 0, none⟩) 8 8, .slice (some ⟨w.heap.size + 1 + 1 + 1 + 1, 0, none⟩) 5 5, .slice (some ⟨w.heap.size + 1 + 1 + 1 + 1 + 1, 0, none⟩) 1 1, .slice (some ⟨w.heap.size + 1 + 1 + 1 + 1 + 1 + 1, 0, none⟩) 4 4] 22))
  replace o5 := o5.below (below_new w7 (.cells #[.slice (some ⟨w.heap.size + 1, 0, none⟩) 3 3, .slice (some ⟨w.heap.size + 1 + 1, 0, none⟩) 7 7, .slice (some ⟨w.heap.size + 1 + 1 + 1, 0, none⟩) 8 8, .slice (some ⟨w.heap.size + 1 + 1 + 1 + 1, 0, none⟩) 5 5, .slice (some ⟨w.heap.size + 1 + 1 + 1 + 1 + 1, 0, none⟩) 1 1, .slice (some ⟨w.heap.size + 1 + 1 + 1 + 1 + 1 + 1, 0, none⟩) 4 4] 22))
  replace o6 := o6.below (below_new w7 (.cells #[.slice (some ⟨w.heap.size + 1, 0, none⟩) 3 3, .slice (some ⟨w.heap.size + 1 + 1, 0, none⟩) 7 7, .slice (some ⟨w.heap.size + 1 + 1 + 1, 0, none⟩) 8 8, .slice (some ⟨w.heap.size + 1 + 1 + 1 + 1, 0, none⟩) 5 5, .slice (some ⟨w.heap.size + 1 + 1 + 1 + 1 + 1, 0, none⟩) 1 1, .slice (some ⟨w.heap.size + 1 + 1 + 1 + 1 + 1 + 1, 0, none⟩) 4 4] 22))
  have s7 : (w7.alloc (.cells #[.slice (some ⟨w.heap.size + 1, 0, none⟩) 3 3, .slice (some ⟨w.heap.size + 1 + 1, 0, none⟩) 7 7, .slice (some ⟨w.heap.size + 1 + 1 + 1, 0, none⟩) 8 8, .slice (some ⟨w.heap.size + 1 + 1 + 1 + 1, 0, none⟩) 5 5, .slice (some ⟨w.heap.size + 1 + 1 + 1 + 1 + 1, 0, none⟩) 1 1, .slice (some ⟨w.heap.size + 1 + 1 + 1 + 1 + 1 + 1, 0, none⟩) 4 4] 22)).heap.size = w.heap.size + 1 + 1 + 1 + 1 + 1 + 1 + 1 + 1 := by simp [s6]
  generalize w7.alloc (.cells #[.slice (some ⟨w.heap.size + 1, 0, none⟩) 3 3, .slice (some ⟨w.heap.size + 1 + 1, 0, none⟩) 7 7, .slice (some ⟨w.heap.size + 1 + 1 + 1, 0, none⟩) 8 8, .slice (some ⟨w.heap.size + 1 + 1 + 1 + 1, 0, none⟩) 5 5, .slice (some ⟨w.heap.size + 1 + 1 + 1 + 1 + 1, 0, none⟩) 1 1, .slice (some ⟨w.heap.size + 1 + 1 + 1 + 1 + 1 + 1, 0, none⟩) 4 4] 22) = w8 at *
  refine ⟨b7, x0, s7, fun k hk => ?_⟩
  rcases (by omega : k = 0 ∨ k = 1 ∨ k = 2 ∨ k = 3 ∨ k = 4 ∨ k = 5) with rfl | rfl | rfl | rfl | rfl | rfl
  · exact ⟨_, _, _, bxc x7 0 _ rfl, by omega, o1, Lib.hid (by decide), by decide, by decide⟩
  · exact ⟨_, _, _, bxc x7 1 _ rfl, by omega, o2, Lib.hid (by decide), by decide, by decide⟩
  · exact ⟨_, _, _, bxc x7 2 _ rfl, by omega, o3, Lib.hid (by decide), by decide, by decide⟩
  · exact ⟨_, _, _, bxc x7 3 _ rfl, by omega, o4, Lib.hid (by decide), by decide, by decide⟩
  · exact ⟨_, _, _, bxc x7 4 _ rfl, by omega, o5, Lib.hid (by decide), by decide, by decide⟩
  · exact ⟨_, _, _, bxc x7 5 _ rfl, by omega, o6, Lib.hid (by decide), by decide, by decide⟩

theorem own_ne {w : World} {B m d k : Nat} {V : Option Addr} {xs : List Int} {cs : Array Value} {T : TypeId} (h : Own w B V m d xs) (hk : w.heap[k]? = some (.cells cs T (0, 0))) (hT : T ≠ 3) : rowOf V ≠ some k := by
  intro e
  rcases h.2 with ⟨h0, _⟩ | ⟨g', cap, cur, hv, _, hg, _⟩
  · injection h0 with h0; subst h0; cases e
  · injection hv with hv
    subst hv
    simp only [rowOf, Option.some.injEq] at e
    subst e
    rw [hg] at hk
    injection hk with hk
    injection hk with _ ht
    exact absurd ht.symm hT
/-- A drawn geography while it grows: the box at b, the result's box at a. -/
structure GeoS (w0 w : World) (g L a b : Nat) (P : Option Addr) (n c : Nat) (ps : List Int) : Prop where
  ok : geoB ps = true
  cu : Cur w g L
  ch : Chg g (g + 1) w0 w
  own : Own w w0.heap.size P n c ps
  bx : w.heap[b]? = some (.cells #[.slice P n c] 36 (0, 0))
  rx : w.heap[a]? = some (.cells #[.slice none 0 0] 36 (0, 0))
  ab : w0.heap.size ≤ a ∧ a < b
theorem GeoS.chg {w0 w w' : World} {g L L' a b : Nat} {P : Option Addr} {n c : Nat} {ps : List Int} (h : GeoS w0 w g L a b P n c ps) (hg : g < w0.heap.size) (hc : Cur w' g L') (hx : Chg g (g + 1) w w') : GeoS w0 w' g L' a b P n c ps :=
  ⟨h.ok, hc, h.ch.trans hx, h.own.keep fun k hk hl => hx.block k hl (.inr (by have := (h.own.row_ge k (by rw [hk]; rfl)).1; omega)), box_chg h.bx hx (by have := h.ab; omega), box_chg h.rx hx (by have := h.ab; omega), h.ab⟩
theorem GeoS.grow {w0 w w' : World} {g L a b : Nat} {P P2 : Option Addr} {n c c2 : Nat} {ps : List Int} {x : Int} (h : GeoS w0 w g L a b P n c ps) (hg : g < w0.heap.size) (hn : ps.length ≤ 29) (hx0 : 0 ≤ x) (hx1 : x < ps.length) (hw : w.grownBy w' (rowOf P)) (ho : Own w' w0.heap.size P2 (n + 1) c2 (ps ++ [x])) :
    GeoS w0 (w'.setCell ⟨b, 0, none⟩ (.slice P2 (n + 1) c2)) g L a b P2 (n + 1) c2 (ps ++ [x]) := by
  have hr : ∀ j, rowOf P = some j → w0.heap.size ≤ j := fun j hj => (h.own.row_ge j hj).1
  have hb := h.ab
  have x1 := box_app2 h.bx hw (own_ne h.own h.bx (by decide))
  have x2 := box_app2 h.rx hw (own_ne h.own h.rx (by decide))
  have c1 := cur_app h.cu hw (fun j hj => by have := hr j hj; omega)
  have g1 := chg_app h.ch hw hr
  refine ⟨geo_snoc h.ok hn hx0 hx1, c1.far (by show g < b; omega) _, g1.setNewD (by show w0.heap.size ≤ b; omega) _, ?_, box_set x1 0 _, box_off x2 (by show a ≠ b; omega) _, hb⟩
  refine ho.keep fun k hk _ => Below.heap_setCell w' ⟨b, 0, none⟩ _ k ?_
  rintro rfl
  exact own_ne ho x1 (by decide) (by rw [hk]; rfl)
theorem GeoS.mono {w0 w : World} {g L L' a b : Nat} {P : Option Addr} {n c : Nat} {ps : List Int} (h : GeoS w0 w g L a b P n c ps) (hl : L ≤ L') : GeoS w0 w g L' a b P n c ps := ⟨h.ok, h.cu.mono hl, h.ch, h.own, h.bx, h.rx, h.ab⟩
/-- The end: the box's value goes to the result. -/
theorem GeoS.quit {w0 w : World} {g L a b : Nat} {P : Option Addr} {n c : Nat} {ps : List Int} (h : GeoS w0 w g L a b P n c ps) (hg : g < w0.heap.size) (hn : n ≤ 1000) : OwnI (w.setCell ⟨a, 0, none⟩ (.slice P n c)) w0.heap.size (w.setCell ⟨a, 0, none⟩ (.slice P n c)).heap.size P n c ps ∧ Cur (w.setCell ⟨a, 0, none⟩ (.slice P n c)) g L ∧ Chg g (g + 1) w0 (w.setCell ⟨a, 0, none⟩ (.slice P n c)) :=
  ⟨OwnI.of_own (h.own.keep fun k hk _ => Below.heap_setCell w ⟨a, 0, none⟩ _ k (by
    rintro rfl
    exact own_ne h.own h.rx (by decide) (by rw [hk]; rfl))) (by omega), h.cu.far (by show g < a; have := h.ab; omega) _, h.ch.setNewD (by show w0.heap.size ≤ a; exact h.ab.1) _⟩

set_option maxRecDepth 100000 in
set_option maxHeartbeats 4000000 in
theorem geoD_any (g L : Nat) (w : World) (h : Cur w g L) (hL : L ≤ 700000) :
    Calls Tryz.prog 190 #[.pointer (some ⟨g, 0, none⟩)] w (fun e w' => ∃ (P : Option Addr) (n c : Nat) (ps : List Int), e = .returned (.agg #[.slice P n c]) ∧ n ≤ 11 ∧ Hid (geoB ps = true) ∧ OwnI w' w.heap.size w'.heap.size P n c ps ∧ Cur w' g (L + 12) ∧ Chg g (g + 1) w w') := by
  have hlt := h.lt
  obtain ⟨b0, x0, s0, H6⟩ := geo_world w
  have H6 := Lib.hid H6
  have S0 := Lib.hid s0
  have hc0 := h.below b0
  have hG0 : Chg g (g + 1) w _ := Chg.of_below b0
  clear h b0 s0
  go_enter Tryz.func190, Tryz.ntmps190
  go_wp2_with fail
  generalize ((((((((w.alloc (.cells #[.slice none 0 0] 36)).alloc (.cells #[.int .i64 (-1), .int .i64 0, .int .i64 0] 3)).alloc (.cells #[.int .i64 (-1), .int .i64 0, .int .i64 0, .int .i64 1, .int .i64 1, .int .i64 2, .int .i64 2] 3)).alloc (.cells #[.int .i64 (-1), .int .i64 0, .int .i64 0, .int .i64 0, .int .i64 1, .int .i64 1, .int .i64 2, .int .i64 3] 3)).alloc (.cells #[.int .i64 (-1), .int .i64 0, .int .i64 0, .int .i64 1, .int .i64 1] 3)).alloc (.cells #[.int .i64 (-1)] 3)).alloc (.cells #[.int .i64 (-1), .int .i64 0, .int .i64 1, .int .i64 2] 3)).alloc (.cells #[.slice (some ⟨w.heap.size + 1, 0, none⟩) 3 3, .slice (some ⟨w.heap.size + 1 + 1, 0, none⟩) 7 7, .slice (some ⟨w.heap.size + 1 + 1 + 1, 0, none⟩) 8 8, .slice (some ⟨w.heap.size + 1 + 1 + 1 + 1, 0, none⟩) 5 5, .slice (some ⟨w.heap.size + 1 + 1 + 1 + 1 + 1, 0, none⟩) 1 1, .slice (some ⟨w.heap.size + 1 + 1 + 1 + 1 + 1 + 1, 0, none⟩) 4 4] 22)) = w1 at *
  refine (pick_any g _ _ _ hc0 (by omega) (by omega)).mono ?_
  rintro e w2 ⟨v, rfl, hv0, hv1, hc2, hg2⟩
  replace hv1 : v ≤ 5 := by simpa using hv1
  obtain ⟨k, rfl⟩ := Int.eq_ofNat_of_zero_le hv0
  have hk : k < 6 := by omega
  obtain ⟨b, m, xs, hce, hwb, ho, hgo, hm1, hm8⟩ := H6.out k hk
  have hs1 : w1.heap.size = w.heap.size + 1 + 1 + 1 + 1 + 1 + 1 + 1 + 1 := S0.out
  have hG2 := hG0.trans hg2
  have x2 := box_chg x0 hg2 (by omega)
  have o2 := ho.chg hg2 (.inr (by omega))
  have ce2 : w2.cell? ⟨w.heap.size + 1 + 1 + 1 + 1 + 1 + 1 + 1, k, none⟩ = some (.slice (some ⟨b, 0, none⟩) m m) := (World.cell?_of_block (hg2.block (w.heap.size + 1 + 1 + 1 + 1 + 1 + 1 + 1) (by omega) (.inr (by omega)))).trans hce
  have z2 := hg2.size
  clear hc0 hG0 x0 ho hce hg2 hv0 hv1 H6
  go_wp2_with fail
  refine (l1Own_any _ m m xs _ o2.ints (by omega)).mono ?_
  rintro e w3 ⟨P, c, rfl, o3, b3⟩
  have hc3 := hc2.below b3
  have hG3 := hG2.then_ b3
  have x3 := bxb x2 b3
  have z3 := b3.size
  clear hc2 hG2 x2 o2 ce2 b3
  have b4 := below_new w3 (.cells #[.slice P m c] 36)
  have hS4 : GeoS w (w3.alloc (.cells #[.slice P m c] 36)) g (L + 2) w.heap.size w3.heap.size P m c xs := ⟨hgo.out, hc3.below b4, hG3.then_ b4, (o3.own.mono (by omega)).below b4, box_new _ _ _, bxb x3 b4, by omega⟩
  have z4 := b4.size
  obtain ⟨ga, hga⟩ : ∃ ga, ga = w3.heap.size := ⟨_, rfl⟩
  have hl := o3.own.len
  clear hc3 hG3 x3 o3 b4 hgo
  go_wp2_with fail
  generalize w3.alloc (.cells #[.slice P m c] 36) = w4 at *
  refine (pick_any g _ _ _ hS4.cu (by omega) (by omega)).mono ?_
  rintro e w5 ⟨v, rfl, hv0, hv1, hc5, hg5⟩
  replace hv1 : v ≤ 3 := by simpa using hv1
  obtain ⟨q, rfl⟩ := Int.eq_ofNat_of_zero_le hv0
  have hq : q ≤ 3 := by omega
  have hS5 := hS4.chg hlt hc5 hg5
  clear hS4 hc5 hg5 hv0 hv1
  go_wp2_with fail
  go_loopw [5] (fun i wr => ∃ (k n c : Nat) (P : Option Addr) (ps : List Int), i = .int .i64 k ∧ k ≤ 3 ∧ n + k ≤ 11 ∧ ps.length = n ∧ 1 ≤ n ∧ GeoS w wr g (L + 4 + 2 * (3 - k)) w.heap.size w3.heap.size P n c ps) (fun i _ => (intOf i).toNat)
  case atStart => exact ⟨q, m, c, P, xs, rfl, hq, by omega, hl, hm1, hS5.mono (by omega)⟩
  case round =>
    clear hS5 hl hm1 hm8 hq
    obtain ⟨k, n, c, P, ps, rfl, hk, hnk, hl, hn1, hS⟩ := hrel
    obtain ⟨wo, rfl⟩ : ∃ wo : World, wo = wr := ⟨_, rfl⟩
    have e0 : wo.cell? ⟨w3.heap.size, 0, none⟩ = some (.slice P n c) := bxc hS.bx 0 _ rfl
    have hc := hS.cu
    have HS := Lib.hid hS
    have f9 := Lib.hid (show w3.heap.size < wo.heap.size from lt_of_block hS.bx)
    by_cases h0 : 0 < k
    · have hd : decide ((0 : Int) < (k : Int)) = true := by simpa using h0
      have hn0 : 1 ≤ n := hn1
      clear hS
      go_wp2_with fail
      have hcd : Cur wo.drew g (L + 4 + 2 * (3 - k)) := hc
      have hpk := Lib.hid (pick_any g _ n _ hcd (by omega) (by omega))
      have hd9 : Chg g (g + 1) wo wo.drew := Chg.of_below (Below.refl _ _).drew
      go_region_law ((first | (go_simp; go_at_call 85; refine hpk.out.mono ?_; rintro e w6 ⟨u, rfl, hu0, hu1, hc6, hg6⟩; have hu2 : u < n := (by split at hu1 <;> omega); clear hu1; replace hg6 : Chg g (g + 1) wo w6 := hd9.trans hg6; have S6 := Lib.hid (HS.out.chg hlt hc6 hg6); have q0 : w6.cell? ⟨w3.heap.size, 0, none⟩ = some (.slice P n c) := bxc S6.out.bx 0 _ rfl; have q5 : (w6.alloc (.cells #[.int .i64 u] 3)).cell? ⟨w3.heap.size, 0, none⟩ = some (.slice P n c) := bxc (bxb S6.out.bx (below_new _ _)) 0 _ rfl; have q1 := bxf S6.out.bx 0; have hz6 := hg6.size; have o6 := S6.out.own; have hB6 : w.heap.size ≤ w6.heap.size := S6.out.ch.size; dsimp only) | (refine step_app1 (by rfl) _ _ (by rfl) w.heap.size P n c ps (by rfl) (by exact o6) _ (by rfl) (by rfl) (by omega) (by omega) ?_; intro A3 c3 w7 own7 grow7 _; have S7 := Lib.hid (S6.out.grow hlt (by omega) hu0 (by omega) grow7 own7); have q2 : w7.cell? ⟨w3.heap.size, 0, none⟩ = some (.slice P n c) := bxc (box_app2 S6.out.bx grow7 (own_ne o6 S6.out.bx (by decide))) 0 _ rfl; have q3 := bxf (box_app2 S6.out.bx grow7 (own_ne o6 S6.out.bx (by decide))) 0)))
      all_goals (clear q0 q1 q2 q3 q5 o6 own7 grow7 hz6 hB6 hc6 hg6 hd9 hpk hcd e0 hc)
      all_goals go_wp2
      all_goals go_roundw
      all_goals first | exact ⟨k - 1, n + 1, c3, A3, ps ++ [u], by go_num, by omega, by omega, by simp; omega, by omega, S7.out.mono (by omega)⟩ | (simp [intOf]; omega)
    · obtain rfl : k = 0 := by omega
      have hQ := Lib.hid (hS.quit hlt (by omega))
      have p0 : wo.cell? ⟨w.heap.size, 0, none⟩ = some (.slice none 0 0) := bxc hS.rx 0 _ rfl
      have p1 := bxf hS.rx 0
      have r0 : (wo.setCell ⟨w.heap.size, 0, none⟩ (.slice P n c)).cell? ⟨w.heap.size, 0, none⟩ = some (.slice P n c) := bxc (box_set hS.rx 0 (.slice P n c)) 0 _ rfl
      have hn11 : n ≤ 11 := by omega
      have hok := Lib.hid hS.ok
      clear hS hc HS h0
      go_wp2
      exact bodyPost_ret (v := .agg #[.slice P n c]) (by simp [results, Tryz.results190, go_sem, r0]) rfl ⟨P, n, c, ps, rfl, hn11, hok, hQ.out.1, hQ.out.2.1.mono (by omega), hQ.out.2.2⟩
end
end Go.Proofs.YtfanpbfmnckmnaaGreat
