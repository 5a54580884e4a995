/- Adding along a path that ends in a column: the reference. -/
import Derived.Test.YtcjmapdeopffcaaMyA
import Derived.Test.YtcjmapdeopffcaaHa
namespace Go.Proofs.Ytcjmapdeopffcaa
open Go.RowKit Flo
set_option linter.unusedVariables false

theorem l1Least_my (a b : Int) (w : World) :
    Calls Try.prog 110 #[.int .i64 a, .int .i64 b] w fun e w' => e = .returned (.int .i64 (min a b)) ∧ w = w' := by
  by_cases h : a < b
  · have e : min a b = a := by omega
    rw [e]
    have hd : decide (a < b) = true := by simp [h]
    clear e
    go_enter Try.func110, Try.ntmps110
    go_wp2
    go_ret
    exact ⟨rfl, rfl⟩
  · have e : min a b = b := by omega
    rw [e]
    have hd : decide (a < b) = false := by simp [h]
    clear e
    go_enter Try.func110, Try.ntmps110
    go_wp2
    go_ret
    exact ⟨rfl, rfl⟩

/-- The matrix that is filled, with what is left of the sums, in memory. -/
structure FilM (w0 w : World) (F n m h0 h1 h2 h3 h4 : Nat) (R C L H X A B : Option Addr) (rc cc lc hc xc ac bc : Nat) (t : Net) (x : Nat → Nat → Int) (a b : Nat → Int) : Prop where
  net : NetR w0 R C L H t
  old : Below w0.heap.size w0 w
  l0 : w0.heap.size ≤ h0
  l1 : h0 ≤ h1
  l2 : h1 ≤ h2
  l3 : h2 ≤ h3
  l4 : h3 ≤ h4
  l5 : h4 ≤ w.heap.size
  en : t.n = n
  em : t.m = m
  box : w.heap[F]? = some (.cells #[.slice R n rc, .slice C m cc, .slice L n lc, .slice H n hc, .slice X n xc, .slice A n ac, .slice B m bc] 97 (0, 0))
  x : Mat w h0 h1 X n xc m x
  a : Vec w h2 h3 A n ac a
  b : Vec w h3 h4 B m bc b
  F : w0.heap.size ≤ F ∧ (F < h0 ∨ (h1 ≤ F ∧ F < h2))
section
variable {w0 w w' : World} {F n m h0 h1 h2 h3 h4 : Nat} {R C L H X A B : Option Addr} {rc cc lc hc xc ac bc : Nat} {t : Net} {x : Nat → Nat → Int} {a b : Nat → Int}
theorem FilM.below (h : FilM w0 w F n m h0 h1 h2 h3 h4 R C L H X A B rc cc lc hc xc ac bc t x a b) (hb : Below w.heap.size w w') : FilM w0 w' F n m h0 h1 h2 h3 h4 R C L H X A B rc cc lc hc xc ac bc t x a b :=
  ⟨h.net, h.old.trans (hb.mono h.old.size), h.l0, h.l1, h.l2, h.l3, h.l4, Nat.le_trans h.l5 hb.size, h.en, h.em, box_below h.box hb, h.x.below hb, h.a.below hb, h.b.below hb, h.F⟩
theorem FilM.netR (h : FilM w0 w F n m h0 h1 h2 h3 h4 R C L H X A B rc cc lc hc xc ac bc t x a b) : NetR w R C L H t := h.net.below h.old
theorem FilM.fn {x2 : Nat → Nat → Int} (h : FilM w0 w F n m h0 h1 h2 h3 h4 R C L H X A B rc cc lc hc xc ac bc t x a b) (he : ∀ i j, x2 i j = x i j) : FilM w0 w F n m h0 h1 h2 h3 h4 R C L H X A B rc cc lc hc xc ac bc t x2 a b :=
  ⟨h.net, h.old, h.l0, h.l1, h.l2, h.l3, h.l4, h.l5, h.en, h.em, h.box, mat_fn h.x fun i j _ _ => he i j, h.a, h.b, h.F⟩
/-- One cell of the matrix. -/
theorem FilM.cell (h : FilM w0 w F n m h0 h1 h2 h3 h4 R C L H X A B rc cc lc hc xc ac bc t x a b) {i j : Nat} (hi : i < n) (hj : j < m) : ∃ g0 g cv, X = some ⟨g0, 0, none⟩ ∧ w.cell? ⟨g0, i, none⟩ = some (.slice (some ⟨g, 0, none⟩) m cv) ∧ w.cell? ⟨g, j, none⟩ = some (.int .i64 (x i j)) ∧ w.frozen? ⟨g, j, none⟩ = false ∧
    ∀ v, FilM w0 (w.setCell ⟨g, j, none⟩ (.int .i64 v)) F n m h0 h1 h2 h3 h4 R C L H X A B rc cc lc hc xc ac bc t (updM x i j v) a b ∧ Chg h0 h1 w (w.setCell ⟨g, j, none⟩ (.int .i64 v)) := by
  obtain ⟨g0, g, cv, e, c1, c2, c3, hg1, hg2, hg3, hg4, hg5, hg6, hne, back⟩ := mat_cell h.x hi hj
  refine ⟨g0, g, cv, e, c1, c2, c3, fun v => ?_⟩
  have hc : Chg h0 h1 w (w.setCell ⟨g, j, none⟩ (.int .i64 v)) := (Chg.refl h0 h1 w).set hg1 hg2
  refine ⟨⟨h.net, hc.below h.old h.l0 h.old.size, h.l0, h.l1, h.l2, h.l3, h.l4, Nat.le_trans h.l5 hc.size, h.en, h.em, box_chg h.box hc (by have := h.F; omega), back v, h.a.chg hc (.inr h.l2), h.b.chg hc (.inr (Nat.le_trans h.l2 h.l3)), h.F⟩, hc⟩
theorem FilM.rowCell (h : FilM w0 w F n m h0 h1 h2 h3 h4 R C L H X A B rc cc lc hc xc ac bc t x a b) {i : Nat} (hi : i < n) : ∃ g, A = some ⟨g, 0, none⟩ ∧ w.cell? ⟨g, i, none⟩ = some (.int .i64 (a i)) ∧ w.frozen? ⟨g, i, none⟩ = false ∧
    ∀ v, FilM w0 (w.setCell ⟨g, i, none⟩ (.int .i64 v)) F n m h0 h1 h2 h3 h4 R C L H X A B rc cc lc hc xc ac bc t x (fun k => if k = i then v else a k) b ∧ Chg h0 h4 w (w.setCell ⟨g, i, none⟩ (.int .i64 v)) := by
  obtain ⟨g, e, c1, c2, hg1, hg2, hg3, back⟩ := vec_cell h.a hi
  refine ⟨g, e, c1, c2, fun v => ?_⟩
  have hc : Chg h2 h3 w (w.setCell ⟨g, i, none⟩ (.int .i64 v)) := (Chg.refl h2 h3 w).set hg1 hg2
  have l0 := h.l0
  have l1 := h.l1
  have l2 := h.l2
  have l3 := h.l3
  have l4 := h.l4
  refine ⟨⟨h.net, hc.below h.old (by omega) h.old.size, h.l0, h.l1, h.l2, h.l3, h.l4, Nat.le_trans h.l5 hc.size, h.en, h.em, box_chg h.box hc (by have := h.F; omega), h.x.chg hc (.inl l2), back v, h.b.chg hc (.inr (Nat.le_refl _)), h.F⟩, hc.mono (by omega) (by omega)⟩
theorem FilM.colCell (h : FilM w0 w F n m h0 h1 h2 h3 h4 R C L H X A B rc cc lc hc xc ac bc t x a b) {j : Nat} (hj : j < m) : ∃ g, B = some ⟨g, 0, none⟩ ∧ w.cell? ⟨g, j, none⟩ = some (.int .i64 (b j)) ∧ w.frozen? ⟨g, j, none⟩ = false ∧
    ∀ v, FilM w0 (w.setCell ⟨g, j, none⟩ (.int .i64 v)) F n m h0 h1 h2 h3 h4 R C L H X A B rc cc lc hc xc ac bc t x a (fun k => if k = j then v else b k) ∧ Chg h0 h4 w (w.setCell ⟨g, j, none⟩ (.int .i64 v)) := by
  obtain ⟨g, e, c1, c2, hg1, hg2, hg3, back⟩ := vec_cell h.b hj
  refine ⟨g, e, c1, c2, fun v => ?_⟩
  have hc : Chg h3 h4 w (w.setCell ⟨g, j, none⟩ (.int .i64 v)) := (Chg.refl h3 h4 w).set hg1 hg2
  have l0 := h.l0
  have l1 := h.l1
  have l2 := h.l2
  have l3 := h.l3
  have l4 := h.l4
  refine ⟨⟨h.net, hc.below h.old (by omega) h.old.size, h.l0, h.l1, h.l2, h.l3, h.l4, Nat.le_trans h.l5 hc.size, h.en, h.em, box_chg h.box hc (by have := h.F; omega), h.x.chg hc (.inl (by omega)), h.a.chg hc (.inl (Nat.le_refl _)), back v, h.F⟩, hc.mono (by omega) (by omega)⟩
end

/-- The nodes at which a search begins: rows with something left. -/
def rtS (t : Net) (a : Nat → Int) (v : Nat) : Bool := decide (v < t.n) && decide (0 < a v)
/-- What a push finds: a search that has seen the column q, with the way to it. -/
structure PathS (t : Net) (x : Nat → Nat → Int) (a : Nat → Int) (g : Nat → Int) (par : Nat → Nat) (seen : List Nat) (k i0 : Nat) (l0 : List Nat) : Prop where
  bfs : Bfs (t.n + t.m) (roomV t x) (rtS t a) par seen k
  bk : BkS (t.n + t.m) g (rtS t a) par seen
  way : Flo.Way (rtS t a) par seen i0 l0
  i0 : i0 < seen.length
theorem PathS.yes {t : Net} {x : Nat → Nat → Int} {a : Nat → Int} {g : Nat → Int} {par : Nat → Nat} {seen : List Nat} {k i0 i : Nat} {l0 : List Nat} (h : PathS t x a g par seen k i0 l0) (hi : i < seen.length) (hr : rtS t a (sn seen i) = true) : g (sn seen i) = -1 ∧ sn seen i < t.n ∧ 0 < a (sn seen i) := by
  have h1 := (h.bk _ (h.bfs.lt i hi)).1 (mem_sn.2 ⟨i, hi, rfl⟩)
  rw [hr] at h1
  unfold rtS at hr
  simp only [Bool.and_eq_true, decide_eq_true_eq] at hr
  exact ⟨by simpa using h1, hr⟩
theorem PathS.no {t : Net} {x : Nat → Nat → Int} {a : Nat → Int} {g : Nat → Int} {par : Nat → Nat} {seen : List Nat} {k i0 i : Nat} {l0 l : List Nat} (h : PathS t x a g par seen k i0 l0) (hi : i < seen.length) (hw : Flo.Way (rtS t a) par seen i l) (hr : rtS t a (sn seen i) = false) :
    ∃ j l', l = i :: l' ∧ j < i ∧ g (sn seen i) = (sn seen j : Int) ∧ par (sn seen i) = sn seen j ∧ Flo.Way (rtS t a) par seen j l' ∧ sn seen j < t.n + t.m ∧ 0 < roomV t x (sn seen j) (sn seen i) := by
  have h1 := (h.bk _ (h.bfs.lt i hi)).1 (mem_sn.2 ⟨i, hi, rfl⟩)
  rw [hr] at h1
  obtain ⟨j, l', e, e2, hj, hw2⟩ := hw.no hr
  obtain ⟨j2, hj2, e3, hp⟩ := h.bfs.par_ i hi hr
  refine ⟨j, l', e, hj, by rw [← e2]; simpa using h1, e2, hw2, h.bfs.lt j (by omega), ?_⟩
  rw [← e2, e3]; exact hp

theorem PathS.inB {t : Net} {x y : Nat → Nat → Int} {p e : Nat} {s : Int} (h : Sent (t.n + t.m) (roomV t x) (roomV t y) p e s) : InB t y := fun i j hi hj => by
  have h1 := h.nn i (t.n + j) (by omega) (by omega)
  have h2 := h.nn (t.n + j) i (by omega) (by omega)
  rw [roomV_ij hi] at h1
  rw [roomV_ji hi] at h2
  omega
theorem fillPart {t : Net} {x y : Nat → Nat → Int} {a b : Nat → Int} {p q : Nat} {s : Int} (h : t.Part x a b) (hs : Sent (t.n + t.m) (roomV t x) (roomV t y) p (t.n + q) s) (hp : p < t.n) (hq : q < t.m) (h1 : s ≤ a p) (h2 : s ≤ b q) (h3 : 1 ≤ s) :
    t.Part y (fun i => if i = p then a p - s else a i) (fun j => if j = q then b q - s else b j) ∧ sm t.n (fun i => if i = p then a p - s else a i) < sm t.n a := by
  have e1 : (fun i => if i = p then a p - s else a i) = fun i => if i = p then a i - s else a i := funext fun i => by
    by_cases e : i = p
    · rw [if_pos e, if_pos e, e]
    · rw [if_neg e, if_neg e]
  have e2 : (fun i => if i = q then b q - s else b i) = fun i => if i = q then b i - s else b i := funext fun i => by
    by_cases e : i = q
    · rw [if_pos e, if_pos e, e]
    · rw [if_neg e, if_neg e]
  rw [e1, e2]
  exact ⟨h.sent hs hp hq h1 h2, by rw [sm_less hp]; omega⟩

set_option maxRecDepth 100000 in
set_option maxHeartbeats 4000000 in
theorem fillPush_any (w0 : World) (F n m q h0 h1 h2 h3 h4 : Nat) (R C L H X A B G : Option Addr) (rc cc lc hc xc ac bc gc k i0 h5 : Nat) (t : Net) (x : Nat → Nat → Int) (a b g : Nat → Int) (par : Nat → Nat) (seen l0 : List Nat) (w : World)
    (h : FilM w0 w F n m h0 h1 h2 h3 h4 R C L H X A B rc cc lc hc xc ac bc t x a b) (ht : NetB t) (hP : t.Part x a b) (hG : Vec w h4 h5 G (n + m) gc g) (hS : PathS t x a g par seen k i0 l0) (hq : q < m) (he : sn seen i0 = n + q) (hb : 0 < b q) :
    Calls Try.prog 106 #[.pointer (some ⟨F, 0, none⟩), .slice G (n + m) gc, .int .i64 (n + q : Nat)] w fun e w' => e = .returned (.tuple #[]) ∧ ∃ x' a' b', FilM w0 w' F n m h0 h1 h2 h3 h4 R C L H X A B rc cc lc hc xc ac bc t x' a' b' ∧ t.Part x' a' b' ∧ sm n a' < sm n a ∧ Chg h0 h4 w w' := by
  have h8 := ht.n8
  have h8' := ht.m8
  rw [h.en] at h8
  rw [h.em] at h8'
  have HT := Lib.hid ht
  have HF := Lib.hid h
  have HP := Lib.hid hP
  have HG := Lib.hid hG
  have HS := Lib.hid hS
  have HE := Lib.hid he
  have EN := Lib.hid h.en
  have EM := Lib.hid h.em
  have HL := Lib.hid (hP.left (fun i j hi hj => (ht.b i j hi hj).1))
  have f3 := box_cell h.box 6 (.slice B m bc) rfl
  have f2 := box_cell h.box 5 (.slice A n ac) rfl
  obtain ⟨gb, rfl, cb, _, _⟩ := h.colCell hq
  have bb : b q ≤ 100000 := by
    have h1 := HL.out.2 q (by rw [EM.out]; exact hq)
    have h2 := ht.c q (by rw [EM.out]; exact hq)
    omega
  have hWay0 : Hid (Flo.Way (rtS t a) par seen i0 l0) := Lib.hid hS.way
  have hi0 := hS.i0
  obtain ⟨v0, hv0⟩ : ∃ v0 : Nat, v0 = n + q := ⟨_, rfl⟩
  have hv0i : ((v0 : Nat) : Int) - (n : Int) = (q : Int) := by omega
  have HV0 := Lib.hid hv0
  rw [← hv0]
  clear ht h hP hG hS he hv0
  go_enter Try.func106, Try.ntmps106
  go_wp2_with fail
  clear f2 f3 cb
  go_loopw [7, 8] (fun mo st wr => ∃ (i : Nat) (s : Int) (l1 l2 : List Nat), i < seen.length ∧ mo = .int .i64 s ∧ st = .int .i64 (sn seen i) ∧ 1 ≤ s ∧ s ≤ b q ∧ Hid (l0 = l1 ++ l2 ∧ Here par seen i0 l1 i) ∧ Hid (Flo.Way (rtS t a) par seen i l2) ∧ Hid (Cap (roomV t x) par seen l1 s) ∧ Below w.heap.size w wr) (fun _ st _ => plc seen (intOf st).toNat)
  case atStart => exact ⟨i0, b q, [], l0, hi0, rfl, by rw [HE.out, HV0.out], by omega, by omega, Lib.hid ⟨rfl, Here.start⟩, hWay0, Lib.hid Cap.nil, Below.refl _ _⟩
  case round =>
    clear hWay0 hi0
    obtain ⟨i, s, l1, l2, hi, rfl, rfl, hs1, hs2, hl, hw, hcap, hbw⟩ := hrel
    cases hr : rtS t a (sn seen i)
    case false =>
      obtain ⟨j, l', e1, hji, eg, ep, hw2, hjk, hroom⟩ := HS.out.no hi hw.out hr
      obtain ⟨gg, rfl, cg, _⟩ := vec_cell (HG.out.below hbw) (j := sn seen i) (by have := HS.out.bfs.lt i hi; rw [EN.out, EM.out] at this; exact this)
      rw [eg] at cg
      have hik : sn seen i < n + m := by have := HS.out.bfs.lt i hi; rw [EN.out, EM.out] at this; exact this
      rw [EN.out, EM.out] at hjk
      have HFw := Lib.hid (HF.out.below hbw)
      have HQ := Lib.hid (fun (v : Int) (e : v = roomV t x (sn seen j) (sn seen i)) => (show 1 ≤ min s v ∧ min s v ≤ b q ∧ Hid (l0 = (l1 ++ [i]) ++ l' ∧ Here par seen i0 (l1 ++ [i]) j) ∧ Hid (Flo.Way (rtS t a) par seen j l') ∧ Hid (Cap (roomV t x) par seen (l1 ++ [i]) (min s v)) from by
        refine ⟨by omega, by omega, Lib.hid ⟨by rw [hl.out.1, e1, List.append_assoc]; rfl, Here.snoc ep⟩, Lib.hid hw2, Lib.hid ((hcap.out.less (by omega)).snoc (by rw [ep]; omega))⟩))
      have HJ := Lib.hid hji
      have HPL := Lib.hid (fun u (hu : u < seen.length) => plc_sn HS.out.bfs.nd hu)
      have hjl : j < seen.length := by omega
      generalize hu : sn seen i = u at *
      generalize hu2 : sn seen j = u2 at *
      have HU := Lib.hid hu
      have HU2 := Lib.hid hu2
      clear hu hu2 hr hw hl hcap hw2 ep eg hroom
      go_wp2_with fail
      refine (room_any F n m R C L H X A _ rc cc lc hc xc ac bc t x u2 u _ EN.out EM.out HFw.out.box HFw.out.netR HFw.out.x.read HT.out (fun i j hi hj => ⟨HP.out.ge i j hi hj, HP.out.le i j hi hj⟩) hjk hik).mono ?_
      rintro e w2 ⟨rfl, b2⟩
      obtain ⟨v, hv⟩ : ∃ v, v = roomV t x u2 u := ⟨_, rfl⟩
      obtain ⟨q1, q2, q3, q4, q5⟩ := HQ.out v hv
      have cg2 := cellLater cg b2
      have B2 := Lib.hid (hbw.trans (b2.mono hbw.size))
      rw [← hv]
      clear hv HQ cg b2 hbw HFw
      go_wp2_with fail
      refine (l1Least_my _ _ _).mono ?_
      rintro e w3 ⟨rfl, rfl⟩
      go_wp2
      go_roundw
      case rel => exact ⟨j, _, l1 ++ [i], l', hjl, rfl, by rw [HU2.out], q1, q2, q3, q4, q5, B2.out⟩
      case measure => simp only [intOf, Int.toNat_natCast]; rw [← HU.out, ← HU2.out, HPL.out _ hi, HPL.out _ hjl]; exact HJ.out
    case true =>
      obtain ⟨eg, hpn, hpa⟩ := HS.out.yes hi hr
      have hl2 := hw.out.yes hr
      obtain ⟨gg, rfl, cg, _⟩ := vec_cell (HG.out.below hbw) (j := sn seen i) (by have := HS.out.bfs.lt i hi; rw [EN.out, EM.out] at this; exact this)
      rw [eg] at cg
      rw [EN.out] at hpn
      have HFw := Lib.hid (HF.out.below hbw)
      have HW0 := Lib.hid HS.out.way
      have HC0 : Hid (Cap (roomV t x) par seen l0 (min s (a (sn seen i)))) := Lib.hid (by rw [hl.out.1, hl2, List.append_nil]; exact hcap.out.less (by omega))
      have hsa : 1 ≤ min s (a (sn seen i)) ∧ min s (a (sn seen i)) ≤ b q ∧ min s (a (sn seen i)) ≤ a (sn seen i) := by omega
      have HPI := Lib.hid (rfl : sn seen i = sn seen i)
      obtain ⟨ga, rfl, ca, _, _⟩ := HFw.out.rowCell hpn
      have f2 := box_cell HFw.out.box 5 (.slice (some ⟨ga, 0, none⟩) n ac) rfl
      have HH1 : Hid (Here par seen i0 l0 i) := Lib.hid (by have h1 := hl.out.1; rw [hl2, List.append_nil] at h1; rw [h1]; exact hl.out.2)
      clear hl hcap hl2 hw eg
      go_wp2_with fail
      refine (l1Least_my _ _ _).mono ?_
      rintro e w3 ⟨rfl, rfl⟩
      obtain ⟨s, hs⟩ : ∃ s1, s1 = min s (a (sn seen i)) := ⟨_, rfl⟩
      rw [← hs] at HC0 hsa ⊢
      obtain ⟨hsa1, hsa2, hsa3⟩ := hsa
      clear hs cg f2 ca
      go_wp2_with fail
      have HA0 : Hid (Along (t.n + t.m) (roomV t x) (roomV t x) seen i0 (t.n + q) s) := Lib.hid (by
        have h1 : t.n + q = sn seen i0 := by rw [EN.out, HE.out]
        rw [h1]
        exact Along.start fun u v hu hv => HP.out.room_nn hu hv)
      have HCw := Lib.hid (Chg.of_below (lo := h0) (hi := h4) hbw)
      clear hbw
      go_loopw [9] (fun vv wr2 => ∃ (e : Nat) (y : Nat → Nat → Int) (l1 l2 : List Nat), e < seen.length ∧ vv = .int .i64 (sn seen e) ∧ Hid (l0 = l1 ++ l2 ∧ Here par seen i0 l1 e) ∧ Hid (Flo.Way (rtS t a) par seen e l2) ∧ Hid (Cap (roomV t x) par seen l2 s) ∧ Hid (Along (t.n + t.m) (roomV t x) (roomV t y) seen e (t.n + q) s) ∧ Hid (FilM w0 wr2 F n m h0 h1 h2 h3 h4 R C L H X (some ⟨ga, 0, none⟩) (some ⟨gb, 0, none⟩) rc cc lc hc xc ac bc t y a b) ∧ Hid (Chg h0 h4 w wr2)) (fun vv _ => plc seen (intOf vv).toNat)
      case atStart => exact ⟨i0, x, [], l0, HS.out.i0, by rw [HE.out, HV0.out], Lib.hid ⟨rfl, Here.start⟩, HW0, HC0, HA0, HFw, HCw⟩
      case round =>
        clear HA0 HFw HCw HC0 HW0
        obtain ⟨e, y, k1, k2, he, rfl, hl, hw, HC2, HA2, HF2, HG2⟩ := hrel
        cases hr2 : rtS t a (sn seen e)
        case false =>
          obtain ⟨j, l', e1, hje, eg, ep, hw2, hjk, hroom⟩ := HS.out.no he hw.out hr2
          have hek : sn seen e < n + m := by have := HS.out.bfs.lt e he; rw [EN.out, EM.out] at this; exact this
          obtain ⟨gg', eg', cg, _⟩ := vec_cell (HG.out.chg HG2.out (.inr (Nat.le_refl _))) (j := sn seen e) hek
          obtain rfl : gg = gg' := congrArg Addr.block (Option.some.inj eg')
          rw [eg] at cg
          have f4 := box_cell HF2.out.box 4 (.slice X n xc) rfl
          have hcap := HC2.out
          rw [e1] at hcap
          have hcap1 := hcap.head
          rw [ep] at hcap1
          have hal := HA2.out.step HS.out.bfs he hje (by omega) hcap1
          have hsame := HA2.out.same j e hje (Nat.le_refl _)
          have hjl : j < seen.length := by omega
          have HQ := Lib.hid (show Hid (l0 = (k1 ++ [e]) ++ l' ∧ Here par seen i0 (k1 ++ [e]) j) ∧ Hid (Flo.Way (rtS t a) par seen j l') ∧ Hid (Cap (roomV t x) par seen l' s) from ⟨Lib.hid ⟨by rw [hl.out.1, e1, List.append_assoc]; rfl, Here.snoc ep⟩, Lib.hid hw2, Lib.hid hcap.tail⟩)
          have HM : Hid (plc seen (sn seen j) < plc seen (sn seen e)) := Lib.hid (by rw [plc_sn HS.out.bfs.nd he, plc_sn HS.out.bfs.nd hjl]; exact hje)
          have HIn := Lib.hid (PathS.inB HA2.out.sent)
          have hss : s ≤ 100000 := by omega
          rcases room_rc (t := t) hjk (by rw [EN.out, EM.out]; exact hek) hroom with ⟨hun, jj, hjj, hjm⟩ | ⟨hen, jj, hjj, hjm⟩
          · rw [EN.out] at hun hjj
            rw [EM.out] at hjm
            obtain ⟨gx0, gx, cx, rfl, cx0, cx1, cx2, back⟩ := HF2.out.cell hun hjm
            have hb1 := HIn.out (sn seen j) jj (by rw [EN.out]; exact hun) (by rw [EM.out]; exact hjm)
            have hb2 := HT.out.b (sn seen j) jj (by rw [EN.out]; exact hun) (by rw [EM.out]; exact hjm)
            have hy0 : 0 ≤ y (sn seen j) jj := by omega
            have hy1 : y (sn seen j) jj ≤ 100000 := by omega
            obtain ⟨k3, k4⟩ := back (y (sn seen j) jj + s)
            have HF3 := Lib.hid k3
            have HG3 := Lib.hid (HG2.out.trans (k4.mono (Nat.le_refl _) (by have := HF2.out.l2; have := HF2.out.l3; have := HF2.out.l4; omega)))
            have HA3 : Hid (Along (t.n + t.m) (roomV t x) (roomV t (updM y (sn seen j) jj (y (sn seen j) jj + s))) seen j (t.n + q) s) := Lib.hid (hal.congr0 fun u v => by
              have h1 := room_add (t := t) (x := y) (p := sn seen j) (q := jj) (s := s) (by rw [EN.out]; exact hun) u v
              rw [h1, EN.out, ← hjj])
            obtain ⟨gg2, eg2, cg3, _⟩ := vec_cell (HG.out.chg HG3.out (.inr (Nat.le_refl _))) (j := sn seen e) hek
            obtain rfl : gg = gg2 := congrArg Addr.block (Option.some.inj eg2)
            rw [eg] at cg3
            have hd : ((sn seen e : Nat) : Int) - (n : Int) = (jj : Int) := by omega
            have hnn : ¬ sn seen e < n := by omega
            clear hjj back k3 k4 hb1 hb2 HF2 HG2 HA2 hal hsame hcap hcap1 hl hw HC2 hw2 ep eg' eg2 hroom eg
            generalize sn seen e = u at *
            generalize hu2 : sn seen j = u2 at *
            have HU2 := Lib.hid hu2
            clear hu2
            generalize y u2 jj = yy at *
            go_wp2
            go_region
            go_wp2
            go_roundw
            case rel => exact ⟨j, _, k1 ++ [e], l', hjl, by rw [HU2.out], HQ.out.1, HQ.out.2.1, HQ.out.2.2, HA3, Lib.hid (HF3.out.below (Below.refl _ _).drew), Lib.hid HG3.out.drew⟩
            case measure => simp only [intOf, Int.toNat_natCast]; exact HM.out
          · rw [EN.out] at hen hjj
            rw [EM.out] at hjm
            obtain ⟨gx0, gx, cx, rfl, cx0, cx1, cx2, back⟩ := HF2.out.cell hen hjm
            have hb1 := HIn.out (sn seen e) jj (by rw [EN.out]; exact hen) (by rw [EM.out]; exact hjm)
            have hb2 := HT.out.b (sn seen e) jj (by rw [EN.out]; exact hen) (by rw [EM.out]; exact hjm)
            have hy0 : 0 ≤ y (sn seen e) jj := by omega
            have hy1 : y (sn seen e) jj ≤ 100000 := by omega
            obtain ⟨k3, k4⟩ := back (y (sn seen e) jj - s)
            have HF3 := Lib.hid k3
            have HG3 := Lib.hid (HG2.out.trans (k4.mono (Nat.le_refl _) (by have := HF2.out.l2; have := HF2.out.l3; have := HF2.out.l4; omega)))
            have HA3 : Hid (Along (t.n + t.m) (roomV t x) (roomV t (updM y (sn seen e) jj (y (sn seen e) jj - s))) seen j (t.n + q) s) := Lib.hid (hal.congr0 fun u v => by
              have h1 := room_sub (t := t) (x := y) (p := sn seen e) (q := jj) (s := s) (by rw [EN.out]; exact hen) u v
              rw [h1, EN.out, ← hjj])
            obtain ⟨gg2, eg2, cg3, _⟩ := vec_cell (HG.out.chg HG3.out (.inr (Nat.le_refl _))) (j := sn seen e) hek
            obtain rfl : gg = gg2 := congrArg Addr.block (Option.some.inj eg2)
            rw [eg] at cg3
            have hd : ((sn seen j : Nat) : Int) - (n : Int) = (jj : Int) := by omega
            clear hjj back k3 k4 hb1 hb2 HF2 HG2 HA2 hal hsame hcap hcap1 hl hw HC2 hw2 ep eg' eg2 hroom eg
            generalize sn seen e = u at *
            generalize hu2 : sn seen j = u2 at *
            have HU2 := Lib.hid hu2
            clear hu2
            generalize y u jj = yy at *
            go_wp2
            go_region
            go_wp2
            go_roundw
            case rel => exact ⟨j, _, k1 ++ [e], l', hjl, by rw [HU2.out], HQ.out.1, HQ.out.2.1, HQ.out.2.2, HA3, Lib.hid (HF3.out.below (Below.refl _ _).drew), Lib.hid HG3.out.drew⟩
            case measure => simp only [intOf, Int.toNat_natCast]; exact HM.out
        case true =>
          obtain ⟨eg, _, _⟩ := HS.out.yes he hr2
          have hk2 := hw.out.yes hr2
          have hpp : sn seen i = sn seen e := HH1.out.one (by have h1 := hl.out.1; rw [hk2, List.append_nil] at h1; rw [h1]; exact hl.out.2)
          obtain ⟨gg', eg', cg, _⟩ := vec_cell (HG.out.chg HG2.out (.inr (Nat.le_refl _))) (j := sn seen e) (by have := HS.out.bfs.lt e he; rw [EN.out, EM.out] at this; exact this)
          obtain rfl : gg = gg' := congrArg Addr.block (Option.some.inj eg')
          rw [eg] at cg
          have hsent := HA2.out.sent
          rw [← hpp] at hsent cg ⊢
          obtain ⟨hP1, hP2⟩ := fillPart HP.out hsent (by rw [EN.out]; exact hpn) (by rw [EM.out]; exact hq) hsa3 hsa2 hsa1
          have hau : a (sn seen i) ≤ 100000 := by
            have h1 := HL.out.1 (sn seen i) (by rw [EN.out]; exact hpn)
            have h2 := HT.out.r (sn seen i) (by rw [EN.out]; exact hpn)
            omega
          have HP1 := Lib.hid hP1
          have HP2 := Lib.hid hP2
          obtain ⟨ga', ea', ca0, ca1, backA⟩ := HF2.out.rowCell hpn
          obtain rfl : ga = ga' := congrArg Addr.block (Option.some.inj ea')
          obtain ⟨k3, k4⟩ := backA (a (sn seen i) - s)
          obtain ⟨gb', eb', cb0, cb1, backB⟩ := k3.colCell hq
          obtain rfl : gb = gb' := congrArg Addr.block (Option.some.inj eb')
          obtain ⟨k5, k6⟩ := backB (b q - s)
          have HF4 := Lib.hid k5
          have HG4 := Lib.hid ((HG2.out.trans k4).trans k6)
          have fa := box_cell HF2.out.box 5 (.slice (some ⟨ga, 0, none⟩) n ac) rfl
          have fb := box_cell k3.box 6 (.slice (some ⟨gb, 0, none⟩) m bc) rfl
          have hv0n : n ≤ v0 := by omega
          clear hP1 hP2 hsent k3 k4 k5 k6 backA backB ea' eb' eg' eg hpp hk2 hl hw HC2 HA2 HF2 HG2 HH1
          generalize sn seen i = p at *
          generalize a p = ap at *
          generalize b q = bq at *
          go_wp2
          go_end0
          exact ⟨rfl, _, _, _, HF4.out, HP1.out, by have := HP2.out; rw [EN.out] at this; exact this, HG4.out⟩
end Go.Proofs.Ytcjmapdeopffcaa
