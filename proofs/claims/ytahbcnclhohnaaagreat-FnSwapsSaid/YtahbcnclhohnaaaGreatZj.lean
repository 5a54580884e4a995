/- Several small texts in one: DrG, DrR, DrS, DrV. -/
import Derived.Test.YtahbcnclhohnaaaGreatZc
import Derived.Test.YtahbcnclhohnaaaGreatZf
import Derived.Test.YtahbcnclhohnaaaGreatYb
import Derived.Test.YtahbcnclhohnaaaGreatZg
import Derived.Test.YtahbcnclhohnaaaGreatRowG
import Derived.Test.YtahbcnclhohnaaaGreatAppG
import Derived.Laws.BytesArg
namespace Go.Proofs.YtahbcnclhohnaaaGreat

section
open Go.RowKit

theorem list_ofR {α : Type} {Q : Nat → α → Prop} : ∀ n : Nat, (∀ i, i < n → ∃ p, Q i p) → ∃ l : List α, l.length = n ∧ ∀ i, i < n → ∃ p, l[i]? = some p ∧ Q i p
  | 0, _ => ⟨[], rfl, fun i hi => absurd hi (by omega)⟩
  | n + 1, h => by
    obtain ⟨l, hl, hq⟩ := list_ofR n (fun i hi => h i (by omega))
    obtain ⟨p, hp⟩ := h n (by omega)
    refine ⟨l ++ [p], by simp [hl], fun i hi => ?_⟩
    rcases Nat.lt_or_ge i n with h1 | h1
    · obtain ⟨q, e, hq'⟩ := hq i h1
      exact ⟨q, by rw [List.getElem?_append_left (by omega)]; exact e, hq'⟩
    · obtain rfl : i = n := by omega
      exact ⟨p, by rw [List.getElem?_append_right (by omega), hl, Nat.sub_self]; rfl, hp⟩
theorem box_app2 {a b : World} {k : Nat} {o : Obj} {A : Option Addr} (h : a.heap[k]? = some o) (hg : a.grownBy b (rowOf A)) (hr : rowOf A ≠ some k) : b.heap[k]? = some o :=
  (hg.block k (lt_of_block h) (fun e => hr e.symm)).trans h
theorem row_ne2 {w : World} {B lo n c sz m d g : Nat} {T : TypeId} {V A : Option Addr} {xs : List Int} {ys : List Value} (ho : Own w B V m d xs) (h : w.ownsRow lo T sz (.slice A n c) n ys) (hT : T ≠ 3) (e1 : rowOf V = some g) : rowOf A ≠ some g := by
  intro e
  rcases h.2 with ⟨h0, _⟩ | ⟨g', cap, cur, hv, _⟩
  · injection h0 with h0; subst h0; cases e
  · injection hv with hv
    subst hv
    simp only [rowOf, Option.some.injEq] at e
    subst e
    exact row_ne ho h hT e1
theorem row_chg {w w' : World} {B n c sz g : Nat} {T : TypeId} {A : Option Addr} {ys : List Value} (h : w.ownsRow B T sz (.slice A n c) n ys) (hc : Chg g (g + 1) w w') (hg : g < B) : w'.ownsRow B T sz (.slice A n c) n ys :=
  row_keep h fun k hl _ hk => hc.block k hk (.inr (by omega))

/-- Drawn variables: short names, few levels. -/
def VsB (vs : List (ByteArray × Int)) : Prop := ∀ p, p ∈ vs → 0 ≤ p.2 ∧ p.2 ≤ 9 ∧ p.1.size ≤ 16
theorem VsB.nil_ : VsB [] := fun p h => by cases h
theorem VsB.snoc {vs : List (ByteArray × Int)} {s : ByteArray} {x : Int} (h : VsB vs) (h0 : 0 ≤ x) (h1 : x ≤ 9) (h2 : s.size ≤ 16) : VsB (vs ++ [(s, x)]) := fun p hp => by
  rcases List.mem_append.1 hp with hp | hp
  · exact h p hp
  · simp only [List.mem_singleton] at hp; subst hp; exact ⟨h0, h1, h2⟩
theorem VsB.at_ {vs : List (ByteArray × Int)} (h : VsB vs) {j : Nat} (hj : j < vs.length) : 0 ≤ vL vs j ∧ vL vs j ≤ 9 ∧ (vN vs j).size ≤ 16 := by
  unfold vL vN
  rw [List.getElem?_eq_getElem hj, Option.getD_some]
  exact h _ (List.getElem_mem hj)
/-- A drawn row of variables. -/
structure DVr (w : World) (lo : Nat) (A : Option Addr) (n c : Nat) (vs : List (ByteArray × Int)) : Prop where
  own : w.ownsRow lo 105 2 (.slice A n c) n (vcells vs)
  bd : VsB vs
section
variable {w w' : World} {A : Option Addr} {n c lo : Nat} {vs : List (ByteArray × Int)}
theorem DVr.nil_ {w : World} {lo : Nat} : DVr w lo none 0 0 [] := ⟨World.ownsRow_nil _ _ _ _, VsB.nil_⟩
theorem DVr.chg {g : Nat} (h : DVr w lo A n c vs) (hc : Chg g (g + 1) w w') (hg : g < lo) : DVr w' lo A n c vs := ⟨row_chg h.own hc hg, h.bd⟩
theorem DVr.below (h : DVr w lo A n c vs) (hb : Below w.heap.size w w') : DVr w' lo A n c vs := ⟨row_below h.own hb, h.bd⟩
theorem DVr.mono {lo' : Nat} (h : DVr w lo A n c vs) (hl : lo' ≤ lo) : DVr w lo' A n c vs := ⟨⟨h.own.1, by
  rcases h.own.2 with h0 | ⟨g, cap, cur, hv, hb, hr⟩
  · exact .inl h0
  · exact .inr ⟨g, cap, cur, hv, by omega, hr⟩⟩, h.bd⟩
theorem DVr.len (h : DVr w lo A n c vs) : vs.length = n := by have h1 := h.own.1; rw [vcells_len] at h1; omega
theorem DVr.ownV (h : DVr w lo A n c vs) (hn : n ≤ 1000) : OwnV w lo w.heap.size A n c vs := ⟨h.own, fun k hk => (row_ge h.own k hk).2, by omega⟩
theorem DVr.vars (h : DVr w lo A n c vs) (hn : n ≤ 1000) : VarsR w A n vs := (h.ownV hn).vars
theorem DVr.sch (h : DVr w lo A n c vs) (hn : n ≤ 1000) : SchR w A n c vs := by
  refine ⟨h.vars hn, fun j hj => ?_, by omega, ?_⟩
  · have := (h.bd.at_ (j := j) (by rw [h.len]; exact hj)).2.2; omega
  · rcases h.own.2 with ⟨hv, h0⟩ | ⟨g, cap, cur, hv, _, _, hc, _⟩
    · injection hv with _ _ hc; omega
    · injection hv with _ _ hc'; omega
end
/-- A drawn schema. -/
def DSch (b g L : Nat) (w : World) (e : Ending) (w' : World) : Prop := ∃ (A : Option Addr) (m c : Nat) (vs : List (ByteArray × Int)), e = .returned (.slice A m c) ∧ m ≤ b ∧ DVr w' w.heap.size A m c vs ∧ Cur w' g L ∧ Chg g (g + 1) w w'
/-- A drawn list of ints, in blocks of its own. -/
def DInts (b g L : Nat) (w : World) (e : Ending) (w' : World) : Prop := ∃ (A : Option Addr) (m c : Nat) (xs : List Int), e = .returned (.slice A m c) ∧ m ≤ b ∧ OwnI w' w.heap.size w'.heap.size A m c xs ∧ Cur w' g L ∧ Chg g (g + 1) w w'

/-- A drawn row of records: the values are rows of the call's own. -/
structure DRs (w : World) (lo : Nat) (A : Option Addr) (n c : Nat) : Prop where
  cells : ∃ ys, w.ownsRow lo 79 3 (.slice A n c) n ys ∧ ∀ j, j < n → ∃ (x y : Int) (V : Option Addr) (m cv : Nat) (xs : List Int), ys[j * 3]? = some (.int .i64 x) ∧ ys[j * 3 + 1]? = some (.int .i64 y) ∧ ys[j * 3 + 2]? = some (.slice V m cv) ∧ OwnI w lo w.heap.size V m cv xs ∧ m ≤ 1000
section
variable {w w' : World} {A : Option Addr} {n c lo : Nat}
theorem DRs.nil_ {w : World} {lo : Nat} : DRs w lo none 0 0 := ⟨⟨[], World.ownsRow_nil _ _ _ _, fun j hj => absurd hj (by omega)⟩⟩
theorem OwnI.chgT {V : Option Addr} {m cv g : Nat} {xs : List Int} (h : OwnI w lo w.heap.size V m cv xs) (hc : Chg g (g + 1) w w') (hg : g < lo) : OwnI w' lo w'.heap.size V m cv xs := by
  have h2 := h.chg hc (.inr (by omega))
  exact ⟨h2.own, fun k hk => Nat.lt_of_lt_of_le (h.top k hk) hc.size, h.small⟩
theorem DRs.chg {g : Nat} (h : DRs w lo A n c) (hc : Chg g (g + 1) w w') (hg : g < lo) : DRs w' lo A n c := by
  obtain ⟨ys, h1, h2⟩ := h.cells
  refine ⟨⟨ys, row_chg h1 hc hg, fun j hj => ?_⟩⟩
  obtain ⟨x, y, V, m, cv, xs, e0, e1, e2, hv, hm⟩ := h2 j hj
  exact ⟨x, y, V, m, cv, xs, e0, e1, e2, hv.chgT hc hg, hm⟩
theorem DRs.below (h : DRs w lo A n c) (hb : Below w.heap.size w w') : DRs w' lo A n c := by
  obtain ⟨ys, h1, h2⟩ := h.cells
  refine ⟨⟨ys, row_below h1 hb, fun j hj => ?_⟩⟩
  obtain ⟨x, y, V, m, cv, xs, e0, e1, e2, hv, hm⟩ := h2 j hj
  exact ⟨x, y, V, m, cv, xs, e0, e1, e2, ⟨(hv.below hb).own, fun k hk => Nat.lt_of_lt_of_le (hv.top k hk) hb.size, hv.small⟩, hm⟩
theorem DRs.mono {lo' : Nat} (h : DRs w lo A n c) (hl : lo' ≤ lo) : DRs w lo' A n c := by
  obtain ⟨ys, h1, h2⟩ := h.cells
  refine ⟨⟨ys, row_mono h1 hl, fun j hj => ?_⟩⟩
  obtain ⟨x, y, V, m, cv, xs, e0, e1, e2, hv, hm⟩ := h2 j hj
  exact ⟨x, y, V, m, cv, xs, e0, e1, e2, ⟨hv.own.mono hl, hv.top, hv.small⟩, hm⟩
theorem DRs.recs (h : DRs w lo A n c) (hn : n ≤ 1000) : ∃ rs, DatR w A n rs := by
  obtain ⟨ys, ho, h2⟩ := h.cells
  obtain ⟨zs, hzl, hz⟩ := list_ofR (α := RecD) (Q := fun j p => ys[j * 3]? = some (.int .i64 p.area) ∧ ys[j * 3 + 1]? = some (.int .i64 p.house) ∧ (∃ V m cv, ys[j * 3 + 2]? = some (.slice V m cv) ∧ OwnI w lo w.heap.size V m cv p.vals ∧ m ≤ 1000)) n (fun j hj => by
    obtain ⟨x, y, V, m, cv, xs, e0, e1, e2, hv, hm⟩ := h2 j hj
    exact ⟨⟨x, y, xs⟩, e0, e1, V, m, cv, e2, hv, hm⟩)
  refine ⟨zs, ⟨hzl, fun hn0 => ?_⟩, fun j hj => ?_, by omega⟩
  · obtain ⟨g, rfl, _, _⟩ := row_head ho hn0
    have hl := ho.1
    refine ⟨_, rfl, fun j hj => ?_⟩
    obtain ⟨p, e, h0, h1, V, m, cv, h3, hv, _⟩ := hz j hj
    rw [addr_add0]
    simp only [rA, rH, rV, rX, e, Option.getD_some]
    exact ⟨(World.ownsRow.cellAt ho (j * 3) (by omega)).trans h0, (World.ownsRow.cellAt ho (j * 3 + 1) (by omega)).trans h1, V, m, cv, (World.ownsRow.cellAt ho (j * 3 + 2) (by omega)).trans h3, hv.ints⟩
  · obtain ⟨p, e, _, _, V, m, cv, _, hv, hm⟩ := hz j hj
    simp only [rV, rX, e, Option.getD_some]
    have := hv.ints.1
    omega
/-- One record more. -/
theorem DRs.snoc {A2 V : Option Addr} {c2 m cv : Nat} {x y : Int} {xs : List Int} {ys : List Value} (ho : w.ownsRow lo 79 3 (.slice A n c) n ys) (h2 : ∀ j, j < n → ∃ (x y : Int) (V : Option Addr) (m cv : Nat) (xs : List Int), ys[j * 3]? = some (.int .i64 x) ∧ ys[j * 3 + 1]? = some (.int .i64 y) ∧ ys[j * 3 + 2]? = some (.slice V m cv) ∧ OwnI w lo w.heap.size V m cv xs ∧ m ≤ 1000)
    (hv : OwnI w lo w.heap.size V m cv xs) (hm : m ≤ 1000) (hg : w.grownBy w' (rowOf A)) (hn : w'.ownsRow lo 79 3 (.slice A2 (n + 1) c2) (n + 1) (ys ++ [.int .i64 x, .int .i64 y, .slice V m cv])) : DRs w' lo A2 (n + 1) c2 := by
  have hl := ho.1
  have far : ∀ {V : Option Addr} {m cv : Nat} {xs : List Int}, OwnI w lo w.heap.size V m cv xs → OwnI w' lo w'.heap.size V m cv xs := fun {V m cv xs} hv => by
    refine OwnI.of_own (hv.own.far hg fun g hA e => ?_) hv.small
    exact row_ne2 hv.own ho (by decide) (by rw [hA]; rfl) e
  refine ⟨⟨_, hn, fun j hj => ?_⟩⟩
  rcases Nat.lt_or_ge j n with h | h
  · obtain ⟨x, y, V, m, cv, xs, e0, e1, e2, hv, hm⟩ := h2 j h
    exact ⟨x, y, V, m, cv, xs, by rw [List.getElem?_append_left (by omega)]; exact e0, by rw [List.getElem?_append_left (by omega)]; exact e1, by rw [List.getElem?_append_left (by omega)]; exact e2, far hv, hm⟩
  · obtain rfl : j = n := by omega
    refine ⟨x, y, V, m, cv, xs, ?_, ?_, ?_, far hv, hm⟩
    · rw [List.getElem?_append_right (by omega), hl, Nat.sub_self]; rfl
    · rw [List.getElem?_append_right (by omega), hl]; simp [show j * 3 + 1 - j * 3 = 1 by omega]
    · rw [List.getElem?_append_right (by omega), hl]; simp [show j * 3 + 2 - j * 3 = 2 by omega]
end
/-- Drawn records. -/
def DRecs (b g L : Nat) (w : World) (e : Ending) (w' : World) : Prop := ∃ (A : Option Addr) (m c : Nat), e = .returned (.slice A m c) ∧ m ≤ b ∧ DRs w' w.heap.size A m c ∧ Cur w' g L ∧ Chg g (g + 1) w w'
end

section
open Go.RowKit

def DStr (g L : Nat) (w : World) (e : Ending) (w' : World) : Prop := ∃ s : ByteArray, e = .returned (.string s) ∧ s.size ≤ 16 ∧ Cur w' g L ∧ Chg g (g + 1) w w'
set_option maxHeartbeats 400000 in
theorem of_any (g L b n c : Nat) (cs : Array Value) (w : World) (h : Cur w g L) (hL : L ≤ 900000000) (hx : w.heap[b]? = some (.cells cs 9 (0, 0))) (hb : g < b) (hn : 1 ≤ n) (hn2 : n ≤ 1000) (hs : ∀ j, j < n → ∃ s : ByteArray, cs[j]? = some (.string s) ∧ s.size ≤ 16) :
    Calls Tryz.prog 78 #[.pointer (some ⟨g, 0, none⟩), .slice (some ⟨b, 0, none⟩) n c] w (DStr g (L + 2) w) := by
  have HS := Lib.hid hs
  clear hs
  go_enter Tryz.func78, Tryz.ntmps78
  go_wp2_with fail
  refine (pick_any _ _ _ _ h hL (by omega)).mono ?_
  rintro e w1 ⟨v, rfl, hv0, hv1, hc1, hg1⟩
  have hv2 : v < n := by
    split at hv1 <;> omega
  clear hv1
  obtain ⟨k, rfl⟩ := Int.eq_ofNat_of_zero_le hv0
  have hk : k < n := by omega
  obtain ⟨s, hsk, hss⟩ := HS.out k hk
  have xb := box_chg hx hg1 (by omega)
  have cc := box_cell xb k _ hsk
  clear hx xb hsk h
  go_wp2
  go_ret
  exact ⟨s, rfl, hss, hc1, hg1⟩

theorem names6_at {k : Nat} (h : k < 6) : ∃ s : ByteArray, (#[.string ⟨#[115, 101, 120]⟩, .string ⟨#[97, 103, 101]⟩, .string ⟨#[106, 111, 98]⟩, .string ⟨#[104, 111, 109, 101]⟩, .string ⟨#[115, 105, 122, 101]⟩, .string ⟨#[108, 97, 110, 103]⟩] : Array Value)[k]? = some (.string s) ∧ s.size ≤ 16 := by
  match k, h with
  | 0, _ => exact ⟨_, rfl, by decide⟩
  | 1, _ => exact ⟨_, rfl, by decide⟩
  | 2, _ => exact ⟨_, rfl, by decide⟩
  | 3, _ => exact ⟨_, rfl, by decide⟩
  | 4, _ => exact ⟨_, rfl, by decide⟩
  | 5, _ => exact ⟨_, rfl, by decide⟩
theorem names5_at {k : Nat} (h : k < 5) : ∃ s : ByteArray, (#[.string ⟨#[]⟩, .string ⟨#[65, 103, 101]⟩, .string ⟨#[97, 98, 99, 100, 101, 102, 103, 104, 105]⟩, .string ⟨#[97, 103, 101]⟩, .string ⟨#[97, 98, 32, 99, 100]⟩] : Array Value)[k]? = some (.string s) ∧ s.size ≤ 16 := by
  match k, h with
  | 0, _ => exact ⟨_, rfl, by decide⟩
  | 1, _ => exact ⟨_, rfl, by decide⟩
  | 2, _ => exact ⟨_, rfl, by decide⟩
  | 3, _ => exact ⟨_, rfl, by decide⟩
  | 4, _ => exact ⟨_, rfl, by decide⟩

set_option maxRecDepth 100000 in
set_option maxHeartbeats 2000000 in
theorem schema_any (g L : Nat) (w : World) (h : Cur w g L) (hL : L ≤ 700000) :
    Calls Tryz.prog 77 #[.pointer (some ⟨g, 0, none⟩)] w fun e w' => ∃ (A : Option Addr) (m c : Nat) (vs : List (ByteArray × Int)), e = .returned (.slice A m c) ∧ 1 ≤ m ∧ m ≤ 3 ∧ DVr w' w.heap.size A m c vs ∧ Cur w' g (L + 16) ∧ Chg g (g + 1) w w' := by
  obtain ⟨i0, hi, hz0, hz1, hz2⟩ := info_parts Tryz.infoVariable
  have hlt := h.lt
  have b0 := below_new w (.cells #[.string ⟨#[115, 101, 120]⟩, .string ⟨#[97, 103, 101]⟩, .string ⟨#[106, 111, 98]⟩, .string ⟨#[104, 111, 109, 101]⟩, .string ⟨#[115, 105, 122, 101]⟩, .string ⟨#[108, 97, 110, 103]⟩] 9)
  have xn := box_new w #[.string ⟨#[115, 101, 120]⟩, .string ⟨#[97, 103, 101]⟩, .string ⟨#[106, 111, 98]⟩, .string ⟨#[104, 111, 109, 101]⟩, .string ⟨#[115, 105, 122, 101]⟩, .string ⟨#[108, 97, 110, 103]⟩] 9
  have hc0 := h.below b0
  have hG0 : Chg g (g + 1) w (w.alloc (.cells #[.string ⟨#[115, 101, 120]⟩, .string ⟨#[97, 103, 101]⟩, .string ⟨#[106, 111, 98]⟩, .string ⟨#[104, 111, 109, 101]⟩, .string ⟨#[115, 105, 122, 101]⟩, .string ⟨#[108, 97, 110, 103]⟩] 9)) := Chg.of_below b0
  have HS := Lib.hid (show (w.alloc (.cells #[.string ⟨#[115, 101, 120]⟩, .string ⟨#[97, 103, 101]⟩, .string ⟨#[106, 111, 98]⟩, .string ⟨#[104, 111, 109, 101]⟩, .string ⟨#[115, 105, 122, 101]⟩, .string ⟨#[108, 97, 110, 103]⟩] 9)).heap.size = w.heap.size + 1 by simp)
  clear h b0
  go_enter Tryz.func77, Tryz.ntmps77
  go_wp2_with fail
  generalize w.alloc (.cells #[.string ⟨#[115, 101, 120]⟩, .string ⟨#[97, 103, 101]⟩, .string ⟨#[106, 111, 98]⟩, .string ⟨#[104, 111, 109, 101]⟩, .string ⟨#[115, 105, 122, 101]⟩, .string ⟨#[108, 97, 110, 103]⟩] 9) = w1 at *
  go_loopw [4, 5] (fun a i wr => ∃ (k c : Nat) (A : Option Addr) (vs : List (ByteArray × Int)), k ≤ 3 ∧ i = .int .i64 k ∧ a = .slice A k c ∧ DVr wr (w.heap.size + 1) A k c vs ∧ Cur wr g (L + 4 * k) ∧ wr.heap[w.heap.size]? = some (.cells #[.string ⟨#[115, 101, 120]⟩, .string ⟨#[97, 103, 101]⟩, .string ⟨#[106, 111, 98]⟩, .string ⟨#[104, 111, 109, 101]⟩, .string ⟨#[115, 105, 122, 101]⟩, .string ⟨#[108, 97, 110, 103]⟩] 9 (0, 0)) ∧ Chg g (g + 1) w wr ∧ w.heap.size + 1 ≤ wr.heap.size) (fun _ i _ => 3 - (intOf i).toNat)
  case atStart => exact ⟨0, 0, none, [], by omega, rfl, rfl, DVr.nil_, hc0, xn, hG0, by have := HS.out; omega⟩
  case round =>
    clear hc0 xn hG0
    obtain ⟨k, c, A, vs, hk, rfl, rfl, hD, hc, xn, hG, hz⟩ := hrel
    go_wp2_with fail
    refine (pick_any g _ _ _ hc (by omega) (by omega)).mono ?_
    rintro e w2 ⟨v, rfl, hv0, hv1, hc2, hg2⟩
    replace hv1 : v ≤ 2 := by simpa using hv1
    replace hD := hD.chg hg2 (by omega)
    replace xn := box_chg xn hg2 (by omega)
    have hG2 := hG.trans hg2
    have hz2' := hg2.size
    clear hc hG hg2
    by_cases hlk : (k : Int) < 1 + v
    · obtain ⟨s, hsk, hss⟩ := names6_at (show k < 6 by omega)
      have cn := box_cell xn k _ hsk
      have hk0 : (0 : Int) ≤ (k : Int) := by omega
      have hk6 : (k : Int) < 6 := by omega
      have hk2 : k + 1 ≤ 3 := by omega
      have hd : decide ((k : Int) < 1 + v) = true := by simpa using hlk
      have HD := Lib.hid hD
      clear hD hlk
      go_wp2_with fail
      go_region_held3 (fun w' => w'.cell? ⟨w.heap.size, k, none⟩ = some (.string s)) (first | exact cn | exact q1 | exact q2 | go_keep) ((first | (go_at_call 56; refine (pick_any g _ _ _ (by exact hc2) (by omega) (by omega)).mono ?_; rintro e w5 ⟨u, rfl, hu0, hu1, hc5, hg5⟩; replace hu1 : u ≤ 2 := (by simpa using hu1); replace hg5 : Chg g (g + 1) w2 w5 := (Chg.of_below (Below.refl _ _).drew).trans hg5; have hw5 : IntKind.i64.wrap (2 + u) = 2 + u := IntWalk.i64_in _ (by omega); have x5 := box_chg xn hg5 (by omega); have q1 := box_cell x5 k _ hsk; have D5 := HD.out.chg hg5 (by omega); have G5 := hG2.trans hg5; have hz5 := G5.size; have hz55 := hg5.size; have hz56 : w.heap.size + 1 ≤ w5.heap.size := (by have := hg5.size; omega)) | (refine step_appG (cs := #[.string s, .int .i64 (2 + u)]) (by rfl) _ _ (by rfl) Tryz.underlying24 hi hz0 hz1 hz2 rfl (by omega) (by omega) rfl (by simp [Value.oneCell']) (w.heap.size + 1) A k c (vcells vs) (by rfl) D5.own _ (by rfl) (by rfl) (by omega) (by omega) ?_; intro A3 c3 w6 own6 grow6 _; have hrow : ∀ j, rowOf A = some j → w.heap.size + 1 ≤ j := (fun j hj => (row_ge D5.own j hj).1); have x6 := box_app2 x5 grow6 (fun e => by have := hrow _ e; omega); have q2 := box_cell x6 k _ hsk; have C6 := Lib.hid (cur_app hc5 grow6 (fun j hj => by have := hrow j hj; omega)); have G6 := Lib.hid (chg_app G5 grow6 (fun j hj => by have := hrow j hj; omega)); have D6 : Hid (DVr w6 (w.heap.size + 1) A3 (k + 1) c3 (vs ++ [(s, 2 + u)])) := Lib.hid ⟨by rw [vcells_snoc]; exact own6, D5.bd.snoc (by omega) (by omega) hss⟩; have z6 := grow6.size) | fail))
      all_goals (go_wp2; go_roundw)
      all_goals first | exact ⟨k + 1, c3, A3, _, by omega, by go_num, rfl, D6.out, C6.out.mono (by omega), x6, G6.out, by omega⟩ | (simp [intOf]; omega)
    · have hk1 : 1 ≤ k := by omega
      have hd : decide ((k : Int) < 1 + v) = false := by simpa using hlk
      go_wp2
      go_ret
      exact ⟨A, k, c, vs, rfl, hk1, hk, hD.mono (by omega), hc2.mono (by omega), hG2⟩
end

section
open Go.RowKit

section
variable {w : World} {lo n c ga : Nat} {vs : List (ByteArray × Int)}
theorem DVr.setL {x : Int} (h : DVr w lo (some ⟨ga, 0, none⟩) n c vs) (hn : 1 ≤ n) (h0 : 0 ≤ x) (h1 : x ≤ 9) : ∃ vs', DVr (w.setCell ⟨ga, 1, none⟩ (.int .i64 x)) lo (some ⟨ga, 0, none⟩) n c vs' := by
  have hl := h.len
  rcases vs with _ | ⟨p, vs⟩
  · simp at hl; omega
  · refine ⟨(p.1, x) :: vs, (World.ownsRow.stored h.own 1 (.int .i64 x)).1, fun q hq => ?_⟩
    rcases List.mem_cons.1 hq with rfl | hq
    · exact ⟨h0, h1, (h.bd p (List.mem_cons_self ..)).2.2⟩
    · exact h.bd q (List.mem_cons_of_mem _ hq)
theorem DVr.setN {s : ByteArray} (h : DVr w lo (some ⟨ga, 0, none⟩) n c vs) (hn : 1 ≤ n) (h0 : s.size ≤ 16) : ∃ vs', DVr (w.setCell ⟨ga, 0, none⟩ (.string s)) lo (some ⟨ga, 0, none⟩) n c vs' := by
  have hl := h.len
  rcases vs with _ | ⟨p, vs⟩
  · simp at hl; omega
  · refine ⟨(s, p.2) :: vs, (World.ownsRow.stored h.own 0 (.string s)).1, fun q hq => ?_⟩
    rcases List.mem_cons.1 hq with rfl | hq
    · exact ⟨(h.bd p (List.mem_cons_self ..)).1, (h.bd p (List.mem_cons_self ..)).2.1, h0⟩
    · exact h.bd q (List.mem_cons_of_mem _ hq)
theorem DVr.cells0 (h : DVr w lo (some ⟨ga, 0, none⟩) n c vs) (hn : 1 ≤ n) : w.cell? ⟨ga, 0, none⟩ = some (.string (vN vs 0)) ∧ w.cell? ⟨ga, 1, none⟩ = some (.int .i64 (vL vs 0)) ∧ w.frozen? ⟨ga, 0, none⟩ = false ∧ w.frozen? ⟨ga, 1, none⟩ = false := by
  have hl := h.len
  have hv := vcells_at vs 0 (by omega)
  exact ⟨(World.ownsRow.cellAt h.own 0 (by omega)).trans hv.1, (World.ownsRow.cellAt h.own 1 (by omega)).trans hv.2, World.ownsRow.frozenAt h.own 0, World.ownsRow.frozenAt h.own 1⟩
end

theorem conv_byte (w : World) (x : Int) : (convert 22 9 (.slice (some ⟨w.heap.size, 0, none⟩) 1 1)).run Tryz.prog (w.alloc (.cells #[.int .u8 x] 5)) = .ok (.string (strOfNums [x])) (w.alloc (.cells #[.int .u8 x] 5)) :=
  run_convert_bytes_arg (P := Tryz.prog) (w.alloc (.cells #[.int .u8 x] 5)) 22 5 Tryz.underlying22 Tryz.underlying5 w.heap.size 0 1 1 [x] rfl (fun i hi => by
    obtain rfl : i = 0 := by omega
    exact box_cell (box_new w #[.int .u8 x] 5) 0 _ rfl) 9 Tryz.underlying9

set_option maxRecDepth 100000 in
set_option maxHeartbeats 4000000 in
theorem anySchema_any (g L : Nat) (w : World) (h : Cur w g L) (hL : L ≤ 600000) :
    Calls Tryz.prog 53 #[.pointer (some ⟨g, 0, none⟩)] w (DSch 7 g (L + 40) w) := by
  have hlt := h.lt
  have hc0 := h
  have hG0 := Chg.refl g (g + 1) w
  clear h
  go_enter Tryz.func53, Tryz.ntmps53
  go_wp2_with fail
  refine (schema_any g _ _ hc0 (by omega)).mono ?_
  rintro e w1 ⟨A, m, c, vs, rfl, hm1, hm3, od, hc1, hg1⟩
  have hG1 := hG0.trans hg1
  have z1 := hg1.size
  clear hc0 hG0 hg1
  go_wp2_with fail
  refine (pick_any g _ _ _ hc1 (by omega) (by omega)).mono ?_
  rintro e w2 ⟨v2, rfl, v2l, v2u, hc2, hg2⟩
  replace od := od.chg hg2 (by omega)
  have hG2 := hG1.trans hg2
  have z2 := hg2.size
  clear hc1 hG1 hg2
  replace v2u : v2 ≤ 23 := by simpa using v2u
  by_cases tv20 : v2 = 0
  · subst tv20
    go_wp2_with fail
    have xlit3 := box_new w2 #[.int .i64 1, .int .i64 8, .int .i64 9] 3
    replace od := od.below (below_new w2 (.cells #[.int .i64 1, .int .i64 8, .int .i64 9] 3))
    have hc3 := hc2.below (below_new w2 (.cells #[.int .i64 1, .int .i64 8, .int .i64 9] 3))
    have hG3 := hG2.alloc (.cells #[.int .i64 1, .int .i64 8, .int .i64 9] 3)
    have z3 : w2.heap.size + 1 ≤ (w2.alloc (.cells #[.int .i64 1, .int .i64 8, .int .i64 9] 3)).heap.size := by simp
    clear hc2 hG2
    generalize w2.alloc (.cells #[.int .i64 1, .int .i64 8, .int .i64 9] 3) = u3 at *
    have olit3 := own_lit [1, 8, 9] xlit3 (by decide)
    clear xlit3
    refine (among_any g _ _ _ _ _ _ (1) (9) [1, 8, 9] _ hc3 (by omega) olit3 (by omega) (by decide) (by decide) (by decide)).mono ?_
    rintro e w4 ⟨v4, rfl, v4l, v4u, hc4, hg4⟩
    replace od := od.chg hg4 (by omega)
    have hG4 := hG3.trans hg4
    have z4 := hg4.size
    clear hc3 hG3 hg4
    clear olit3
    obtain ⟨ga, rfl, hga1, hga2⟩ := row_head od.own (by omega)
    obtain ⟨cc0, cc1, cf0, cf1⟩ := od.cells0 hm1
    obtain ⟨vs2, od2⟩ := od.setL (x := v4) hm1 (by omega) (by omega)
    have HD := Lib.hid od2
    clear od od2
    have HC5 := Lib.hid (hc4.far (p := ⟨ga, 1, none⟩) (by show g < ga; omega) (.int .i64 v4))
    have HG5 := Lib.hid (hG4.setNewD (p := ⟨ga, 1, none⟩) (by show w.heap.size ≤ ga; omega) (.int .i64 v4))
    clear hc4 hG4
    go_wp2
    go_ret
    exact ⟨_, m, c, vs2, rfl, by omega, HD.out, HC5.out.mono (by omega), HG5.out⟩
  · have tv20E : (v2 == 0) = false := by rw [beq_eq_false_iff_ne]; exact tv20
    by_cases tv21 : v2 = 1
    · subst tv21
      have b5 := below_new w2 (.cells #[.string ⟨#[]⟩, .string ⟨#[65, 103, 101]⟩, .string ⟨#[97, 98, 99, 100, 101, 102, 103, 104, 105]⟩, .string ⟨#[97, 103, 101]⟩, .string ⟨#[97, 98, 32, 99, 100]⟩] 9)
      have x5 := box_new w2 #[.string ⟨#[]⟩, .string ⟨#[65, 103, 101]⟩, .string ⟨#[97, 98, 99, 100, 101, 102, 103, 104, 105]⟩, .string ⟨#[97, 103, 101]⟩, .string ⟨#[97, 98, 32, 99, 100]⟩] 9
      replace od := od.below b5
      have hc5 := hc2.below b5
      have hG5 := hG2.then_ b5
      have z5 := b5.size
      have y5 := Lib.hid (show (w2.alloc (.cells #[.string ⟨#[]⟩, .string ⟨#[65, 103, 101]⟩, .string ⟨#[97, 98, 99, 100, 101, 102, 103, 104, 105]⟩, .string ⟨#[97, 103, 101]⟩, .string ⟨#[97, 98, 32, 99, 100]⟩] 9)).heap.size = w2.heap.size + 1 by simp)
      have y6 : w2.heap.size < (w2.alloc (.cells #[.string ⟨#[]⟩, .string ⟨#[65, 103, 101]⟩, .string ⟨#[97, 98, 99, 100, 101, 102, 103, 104, 105]⟩, .string ⟨#[97, 103, 101]⟩, .string ⟨#[97, 98, 32, 99, 100]⟩] 9)).heap.size := by simp
      clear hc2 hG2 b5
      go_wp2_with fail
      generalize w2.alloc (.cells #[.string ⟨#[]⟩, .string ⟨#[65, 103, 101]⟩, .string ⟨#[97, 98, 99, 100, 101, 102, 103, 104, 105]⟩, .string ⟨#[97, 103, 101]⟩, .string ⟨#[97, 98, 32, 99, 100]⟩] 9) = w5 at *
      refine (of_any g _ _ 5 _ _ _ hc5 (by omega) x5 (by omega) (by omega) (by omega) (fun j hj => names5_at hj)).mono ?_
      rintro e w6 ⟨s, rfl, hss, hc6, hg6⟩
      replace od := od.chg hg6 (by omega)
      have hG6 := hG5.trans hg6
      have z6 := hg6.size
      clear hc5 hG5 hg6 x5
      obtain ⟨ga, rfl, hga1, hga2⟩ := row_head od.own (by omega)
      obtain ⟨cc0, cc1, cf0, cf1⟩ := od.cells0 hm1
      obtain ⟨vs2, od2⟩ := od.setN (s := s) hm1 hss
      have HD := Lib.hid od2
      clear od od2
      have HC6 := Lib.hid (hc6.far (p := ⟨ga, 0, none⟩) (by show g < ga; omega) (.string s))
      have HG6 := Lib.hid (hG6.setNewD (p := ⟨ga, 0, none⟩) (by show w.heap.size ≤ ga; omega) (.string s))
      clear hc6 hG6
      go_wp2
      go_ret
      exact ⟨_, m, c, vs2, rfl, by omega, HD.out, HC6.out.mono (by omega), HG6.out⟩
    · have tv21E : (v2 == 1) = false := by rw [beq_eq_false_iff_ne]; exact tv21
      by_cases tv22 : v2 = 2
      · subst tv22
        go_wp2
        go_ret
        exact ⟨none, 0, 0, [], rfl, by omega, DVr.nil_, hc2.mono (by omega), hG2⟩
      · have tv22E : (v2 == 2) = false := by rw [beq_eq_false_iff_ne]; exact tv22
        by_cases tv23 : v2 = 3
        · subst tv23
          obtain ⟨i0, hi, hz0, hz1, hz2⟩ := info_parts Tryz.infoVariable
          go_wp2_with fail
          go_loopw [3] (fun a wr => ∃ (A : Option Addr) (k c : Nat) (vs : List (ByteArray × Int)), a = .slice A k c ∧ k ≤ 7 ∧ DVr wr w.heap.size A k c vs ∧ Cur wr g (L + 18 + 2 * k) ∧ Chg g (g + 1) w wr) (fun a _ => 7 - (match a with | .slice _ k _ => k | _ => 0))
          case atStart => exact ⟨A, m, c, vs, rfl, by omega, od, hc2.mono (by omega), hG2⟩
          case round =>
            clear od hc2 hG2 hm1 hm3
            obtain ⟨A, k, c, vs, rfl, hk, od, hc, hG⟩ := hrel
            have hz := hG.size
            go_wp2_with fail
            refine (pick_any g _ _ _ hc (by omega) (by omega)).mono ?_
            rintro e w7 ⟨u, rfl, hu0, hu1, hc7, hg7⟩
            replace hu1 : u ≤ 1 := by simpa using hu1
            replace od := od.chg hg7 (by omega)
            have hG7 := hG.trans hg7
            have z7 := hg7.size
            clear hc hG hg7
            by_cases hlk : (k : Int) < 6 + u
            · have hd : decide ((k : Int) < 6 + u) = true := by simpa using hlk
              have hk2 : k + 1 ≤ 7 := by omega
              have hconv := conv_byte w7 (97 + k)
              have hss : ((⟨#[120]⟩ : ByteArray) ++ strOfNums [97 + (k : Int)]).size ≤ 16 := by have h1 : (strOfNums [97 + (k : Int)]).size = 1 := rfl; rw [ByteArray.size_append, h1]; decide
              have hrow : ∀ j, rowOf A = some j → w.heap.size ≤ j := fun j hj => (row_ge od.own j hj).1
              go_wp2_with (at_builtin; refine wp_appG rfl _ _ rfl Tryz.underlying24 hi hz0 hz1 hz2 rfl (by omega) (by omega) rfl (by simp [Value.oneCell']) w.heap.size A k c (vcells vs) rfl (row_below od.own (below_new _ _)) _ rfl (by simp) (by omega) (by simp; omega) ?_; intro A3 c3 w8 own8 grow8 _)
              have b8 := below_new w7 (.cells #[.int .u8 (97 + k)] 5)
              have hc8 := cur_app (hc7.below b8) grow8 (fun j hj => by have := hrow j hj; omega)
              have hG8 := chg_app (hG7.then_ b8) grow8 hrow
              have D8 : DVr w8 w.heap.size A3 (k + 1) c3 (vs ++ [(⟨#[120]⟩ ++ strOfNums [97 + (k : Int)], 2)]) := ⟨by rw [vcells_snoc]; exact own8, od.bd.snoc (by omega) (by omega) hss⟩
              go_roundw
              case rel => exact ⟨A3, k + 1, c3, _, rfl, by omega, D8, hc8.mono (by omega), hG8⟩
              case measure => simp; omega
            · have hd : decide ((k : Int) < 6 + u) = false := by simpa using hlk
              go_wp2
              go_ret
              exact ⟨A, k, c, vs, rfl, hk, od, hc7.mono (by omega), hG7⟩
        · have tv23E : (v2 == 3) = false := by rw [beq_eq_false_iff_ne]; exact tv23
          go_wp2
          go_ret
          exact ⟨A, m, c, vs, rfl, by omega, od, hc2.mono (by omega), hG2⟩
end

section
open Go.RowKit

set_option maxRecDepth 100000 in
set_option maxHeartbeats 4000000 in
theorem values_any (g L lo n c : Nat) (A : Option Addr) (vs : List (ByteArray × Int)) (w : World) (h : Cur w g L) (hL : L ≤ 800000) (hs : DVr w lo A n c vs) (hlo : g < lo) (hn : n ≤ 8) :
    Calls Tryz.prog 81 #[.pointer (some ⟨g, 0, none⟩), .slice A n c] w (DInts 8 g (L + 16) w) := by
  have hlt := h.lt
  have hlen := hs.len
  have hbd := Lib.hid (fun j (hj : j < n) => hs.bd.at_ (j := j) (by rw [hlen]; exact hj))
  have HS := Lib.hid hs
  clear hs hlen
  go_enter Tryz.func81, Tryz.ntmps81
  go_wp2_with fail
  go_loopw [5, 10] (fun a i wr => ∃ (k : Nat) (E : Option Addr) (c3 : Nat) (xs : List Int), k ≤ n ∧ i = .int .i64 k ∧ a = .slice E k c3 ∧ OwnI wr w.heap.size wr.heap.size E k c3 xs ∧ Cur wr g (L + 2 * k) ∧ Chg g (g + 1) w wr) (fun _ i _ => n - (intOf i).toNat)
  case atStart => exact ⟨0, none, 0, [], Nat.zero_le _, rfl, rfl, ⟨Own.nil_, (fun k hk => by cases hk), by omega⟩, h.mono (by omega), Chg.refl _ _ _⟩
  case round =>
    clear h
    obtain ⟨k, E, c3, xs, hk, rfl, rfl, hO, hc, hG⟩ := hrel
    obtain ⟨wo, rfl⟩ : ∃ wo : World, wo = wr := ⟨_, rfl⟩
    have hz := hG.size
    by_cases hlt2 : k < n
    · obtain ⟨ad, rfl, c0, c1⟩ := ((HS.out.chg hG hlo).vars (by omega)).at_ hlt2
      obtain ⟨l0, l1, _⟩ := hbd.out k hlt2
      obtain ⟨y, hye⟩ : ∃ y, vL vs k = y := ⟨_, rfl⟩
      obtain ⟨s, hse⟩ : ∃ s, vN vs k = s := ⟨_, rfl⟩
      rw [hye] at c1 l0 l1
      rw [hse] at c0
      have b1 := below_new wo (.cells #[.string s, .int .i64 y] 105)
      have hc1 := hc.below b1
      have hG1 := hG.then_ b1
      have hO1 := hO.below b1
      have hz1 := b1.size
      have x1 := box_new wo #[.string s, .int .i64 y] 105
      clear hye hse hc hG b1
      go_wp2_with fail
      generalize wo.alloc (.cells #[.string s, .int .i64 y] 105) = w1 at *
      refine (pick_any g _ _ _ hc1 (by omega) (by omega)).mono ?_
      rintro e w5 ⟨u, rfl, hu0, hu1, hc5, hg5⟩
      clear hu1
      have hO5 := hO1.chg hg5 (by omega)
      have hG5 := hG1.trans hg5
      have hz5 := hg5.size
      clear hc1 hG1 hO1 hg5 c0 c1 x1
      go_wp2_with (at_builtin; refine wp_app1 rfl _ _ rfl w.heap.size E k c3 _ rfl hO5.own _ rfl rfl (by omega) (by omega) ?_; intro A3 c4 w6 hown2 hg2 _)
      have hrow : ∀ j, rowOf E = some j → w.heap.size ≤ j := fun j hj => (hO5.row j hj).1
      have hc6 := cur_app hc5 hg2 (fun j hj => by have := hrow j hj; omega)
      have hG6 := chg_app hG5 hg2 hrow
      have hO6 := OwnI.of_own hown2 (by omega)
      clear hO5 hc5 hG5 hg2 hown2 hO
      go_roundw
      case rel => exact ⟨k + 1, A3, c4, _, by omega, by go_num, rfl, hO6, hc6.mono (by omega), hG6⟩
      case measure => simp [intOf]; omega
    · obtain rfl : n = k := by omega
      go_wp2
      go_ret
      exact ⟨E, n, c3, xs, rfl, hn, hO, hc.mono (by omega), hG⟩

set_option maxRecDepth 100000 in
set_option maxHeartbeats 4000000 in
theorem anyValues_any (g L lo n c : Nat) (A : Option Addr) (vs : List (ByteArray × Int)) (w : World) (h : Cur w g L) (hL : L ≤ 700000) (os : DVr w lo A n c vs) (hlo : g < lo) (hn : n ≤ 8) :
    Calls Tryz.prog 80 #[.pointer (some ⟨g, 0, none⟩), .slice A n c] w (DInts 9 g (L + 30) w) := by
  have hlt := h.lt
  have hc0 := h
  have hG0 := Chg.refl g (g + 1) w
  clear h
  have hz0 := Nat.le_refl w.heap.size
  go_enter Tryz.func80, Tryz.ntmps80
  go_wp2_with fail
  refine (values_any g _ lo n c A vs _ hc0 (by omega) os hlo (by omega)).mono ?_
  rintro e w1 ⟨E, m, ce, xs, rfl, hm8, ov, hc1, hg1⟩
  replace os := os.chg hg1 (by omega)
  have hG1 := hG0.trans hg1
  have z1 := hg1.size
  clear hc0 hG0 hg1
  have hp0 : (0 : Int) ≤ (m : Int) := by omega
  by_cases hm0 : 0 < m
  · have hd : decide ((0 : Int) < (m : Int)) = true := by simpa using hm0
    go_wp2_with fail
    refine (one_any g _ _ _ hc1 (by omega) (by omega)).mono ?_
    rintro e w2 ⟨b2, rfl, hc2, hg2⟩
    replace os := os.chg hg2 (by omega)
    replace ov := ov.chg hg2 (by omega)
    have hG2 := hG1.trans hg2
    have z2 := hg2.size
    clear hc1 hG1 hg2
    cases b2
    · go_wp2_with fail
      refine (one_any g _ _ _ hc2 (by omega) (by omega)).mono ?_
      rintro e w3 ⟨b3, rfl, hc3, hg3⟩
      replace os := os.chg hg3 (by omega)
      replace ov := ov.chg hg3 (by omega)
      have hG3 := hG2.trans hg3
      have z3 := hg3.size
      clear hc2 hG2 hg3
      cases b3
      · go_wp2
        go_ret
        exact ⟨E, m, ce, xs, rfl, by omega, OwnI.fit ov (by omega), hc3.mono (by omega), hG3⟩
      · go_wp2_with (at_builtin; refine wp_app1 rfl _ _ rfl _ E m ce _ rfl ov.own _ rfl rfl (by omega) (by omega) ?_; intro A9 c9 w9 hown2 hg2 _)
        have hrow : ∀ j, rowOf E = some j → w.heap.size ≤ j := fun j hj => by have := ov.row j hj; omega
        have hc9 := cur_app hc3 hg2 (fun j hj => by have := hrow j hj; omega)
        have hG9 := chg_app hG3 hg2 hrow
        have hO9 := OwnI.of_own hown2 (by omega)
        clear ov os hg2 hown2 hc3 hG3
        go_wp2
        go_ret
        exact ⟨A9, m + 1, c9, _, rfl, by omega, OwnI.fit hO9 (by omega), hc9.mono (by omega), hG9⟩
    · go_wp2_with fail
      refine (pick_any g _ _ _ hc2 (by omega) (by omega)).mono ?_
      rintro e w4 ⟨v4, rfl, v4l, v4u, hc4, hg4⟩
      replace os := os.chg hg4 (by omega)
      replace ov := ov.chg hg4 (by omega)
      have hG4 := hG2.trans hg4
      have z4 := hg4.size
      clear hc2 hG2 hg4
      replace v4u : v4 ≤ m - 1 := by split at v4u <;> omega
      go_wp2_with fail
      have xlit5 := box_new w4 #[.int .i64 (-1), .int .i64 2, .int .i64 8] 3
      replace os := os.below (below_new w4 (.cells #[.int .i64 (-1), .int .i64 2, .int .i64 8] 3))
      replace ov := ov.below (below_new w4 (.cells #[.int .i64 (-1), .int .i64 2, .int .i64 8] 3))
      have hc5 := hc4.below (below_new w4 (.cells #[.int .i64 (-1), .int .i64 2, .int .i64 8] 3))
      have hG5 := hG4.alloc (.cells #[.int .i64 (-1), .int .i64 2, .int .i64 8] 3)
      have z5 : w4.heap.size + 1 ≤ (w4.alloc (.cells #[.int .i64 (-1), .int .i64 2, .int .i64 8] 3)).heap.size := by simp
      clear hc4 hG4
      generalize w4.alloc (.cells #[.int .i64 (-1), .int .i64 2, .int .i64 8] 3) = u5 at *
      have olit5 := own_lit [-1, 2, 8] xlit5 (by decide)
      clear xlit5
      refine (among_any g _ _ _ _ _ _ (-1) (8) [-1, 2, 8] _ hc5 (by omega) olit5 (by omega) (by decide) (by decide) (by decide)).mono ?_
      rintro e w6 ⟨v6, rfl, v6l, v6u, hc6, hg6⟩
      replace os := os.chg hg6 (by omega)
      replace ov := ov.chg hg6 (by omega)
      have hG6 := hG5.trans hg6
      have z6 := hg6.size
      clear hc5 hG5 hg6
      clear olit5
      obtain ⟨kp, hkp⟩ := Int.eq_ofNat_of_zero_le v4l
      subst hkp
      have hkm : kp < m := by omega
      obtain ⟨ga, hge, hgl, hgs, hcg, hfg⟩ := ov.own.at_ hkm
      subst hge
      have hgw : w.heap.size ≤ ga := by have := ov.row ga rfl; omega
      have HO := Lib.hid (show OwnI (w6.setCell ⟨ga, kp, none⟩ (.int .i64 v6)) _ _ (some ⟨ga, 0, none⟩) m ce (xs.set kp v6) from ⟨ov.own.set, ov.top, ov.small⟩)
      have HC := Lib.hid (hc6.far (p := ⟨ga, kp, none⟩) (by show g < ga; omega) (.int .i64 v6))
      have HG := Lib.hid (hG6.setNewD (p := ⟨ga, kp, none⟩) (by show w.heap.size ≤ ga; omega) (.int .i64 v6))
      clear ov os hc6 hG6
      go_wp2
      go_ret
      exact ⟨_, m, ce, _, rfl, by omega, OwnI.fit HO.out (by omega), HC.out.mono (by omega), HG.out⟩
  · have hm00 : m ≤ 0 := by omega
    have hd : decide ((0 : Int) < (m : Int)) = false := by simp; omega
    clear hm0
    go_wp2_with fail
    refine (one_any g _ _ _ hc1 (by omega) (by omega)).mono ?_
    rintro e w7 ⟨b7, rfl, hc7, hg7⟩
    replace os := os.chg hg7 (by omega)
    replace ov := ov.chg hg7 (by omega)
    have hG7 := hG1.trans hg7
    have z7 := hg7.size
    clear hc1 hG1 hg7
    cases b7
    · go_wp2
      go_ret
      exact ⟨E, m, ce, xs, rfl, by omega, OwnI.fit ov (by omega), hc7.mono (by omega), hG7⟩
    · go_wp2_with (at_builtin; refine wp_app1 rfl _ _ rfl _ E m ce _ rfl ov.own _ rfl rfl (by omega) (by omega) ?_; intro A9 c9 w9 hown2 hg2 _)
      have hrow : ∀ j, rowOf E = some j → w.heap.size ≤ j := fun j hj => by have := ov.row j hj; omega
      have hc9 := cur_app hc7 hg2 (fun j hj => by have := hrow j hj; omega)
      have hG9 := chg_app hG7 hg2 hrow
      have hO9 := OwnI.of_own hown2 (by omega)
      clear ov os hg2 hown2 hc7 hG7
      go_wp2
      go_ret
      exact ⟨A9, m + 1, c9, _, rfl, by omega, OwnI.fit hO9 (by omega), hc9.mono (by omega), hG9⟩
end
end Go.Proofs.YtahbcnclhohnaaaGreat
