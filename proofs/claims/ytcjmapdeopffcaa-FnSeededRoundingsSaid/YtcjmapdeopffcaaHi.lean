/- Several small texts in one: PuC, PuD. -/
import Derived.Test.YtcjmapdeopffcaaHh
import Derived.ArgAppend
import Derived.Test.YtcjmapdeopffcaaHa
namespace Go.Proofs.Ytcjmapdeopffcaa

section
open Go.RowKit Flo
set_option linter.unusedVariables false

/-- A slice of ints that may begin inside its block; all cells up to the capacity can be written. -/
def QS (w : World) (B : Nat) (A : Option Addr) (n c : Nat) (xs : List Int) : Prop :=
  xs.length = n ∧ n ≤ c ∧ (0 < c → ∃ b off, A = some ⟨b, off, none⟩ ∧ B ≤ b ∧ b < w.heap.size ∧
    (∀ j, j < c → (w.cell? ⟨b, off + j, none⟩).isSome = true ∧ w.frozen? ⟨b, off + j, none⟩ = false) ∧
    ∀ j u, xs[j]? = some u → w.cell? ⟨b, off + j, none⟩ = some (.int .i64 u))
theorem QS.head {w : World} {B n c : Nat} {A : Option Addr} {x : Int} {xs : List Int} (h : QS w B A n c (x :: xs)) : ∃ b off, A = some ⟨b, off, none⟩ ∧ w.cell? ⟨b, off, none⟩ = some (.int .i64 x) ∧ 0 < n ∧ 0 < c := by
  have h1 := h.1
  simp only [List.length_cons] at h1
  obtain ⟨b, off, e, _, _, _, h5⟩ := h.2.2 (by have := h.2.1; omega)
  exact ⟨b, off, e, h5 0 x rfl, by omega, by have := h.2.1; omega⟩
theorem QS.tail {w : World} {B n c b off : Nat} {x : Int} {xs : List Int} (h : QS w B (some ⟨b, off, none⟩) n c (x :: xs)) {A : Option Addr} (hA : 0 < c - 1 → A = some ⟨b, off + 1, none⟩) : QS w B A (n - 1) (c - 1) xs := by
  have h1 := h.1
  simp only [List.length_cons] at h1
  refine ⟨by omega, by have := h.2.1; omega, fun hc => ?_⟩
  obtain ⟨b', off', e, h2, h3, h4, h5⟩ := h.2.2 (by omega)
  injection e with e
  injection e with e1 e2
  subst e1 e2
  refine ⟨b, off + 1, hA hc, h2, h3, fun j hj => ?_, fun j u hu => ?_⟩
  · have := h4 (j + 1) (by omega)
    rwa [show off + 1 + j = off + (j + 1) by omega]
  · rw [show off + 1 + j = off + (j + 1) by omega]
    exact h5 (j + 1) u hu
theorem QS.below {w w' : World} {B n c : Nat} {A : Option Addr} {xs : List Int} (h : QS w B A n c xs) (hb : Below w.heap.size w w') : QS w' B A n c xs := by
  refine ⟨h.1, h.2.1, fun hc => ?_⟩
  obtain ⟨b, off, e, h2, h3, h4, h5⟩ := h.2.2 hc
  refine ⟨b, off, e, h2, Nat.lt_of_lt_of_le h3 hb.size, fun j hj => ?_, fun j u hu => (hb.cell (by exact h3)).trans (h5 j u hu)⟩
  have h6 := h4 j hj
  rw [(hb.cell (p := ⟨b, off + j, none⟩) (by exact h3)), hb.frozen (p := ⟨b, off + j, none⟩) (by exact h3)]
  exact h6
theorem QS.set {w : World} {B n c : Nat} {A : Option Addr} {xs : List Int} (h : QS w B A n c xs) {p : Addr} {v : Value} (hp : p.block < B) : QS (w.setCell p v) B A n c xs := by
  refine ⟨h.1, h.2.1, fun hc => ?_⟩
  obtain ⟨b, off, e, h2, h3, h4, h5⟩ := h.2.2 hc
  have hne : ∀ j, p ≠ (⟨b, off + j, none⟩ : Addr) := fun j e => by subst e; exact absurd hp (by simpa using h2)
  refine ⟨b, off, e, h2, by simpa using h3, fun j hj => ?_, fun j u hu => (World.cell?_setCell_other _ _ _ _ (hne j)).trans (h5 j u hu)⟩
  rw [World.cell?_setCell_other _ _ _ _ (hne j), World.frozen?_setCell]
  exact h4 j hj
theorem QS.of_own {w : World} {B : Nat} {v : Value} {n : Nat} {xs : List Int} (h : w.ownsRow B 3 1 v n (xs.map (Value.int .i64))) (hl : xs.length = n) : ∃ A c, v = .slice A n c ∧ QS w B A n c xs := by
  rcases h.2 with ⟨hv, h0⟩ | ⟨g, cap, cur, hv, h1, h2, h3, _, h5, h6⟩
  · exact ⟨none, 0, by rw [hv, h0], hl, by omega, fun h => absurd h (by omega)⟩
  · refine ⟨_, cap, hv, hl, h3, fun hc => ⟨g, 0, rfl, h1, (World.ownsRow.lt h g (by rw [hv]; rfl)).2, fun j hj => ?_, fun j u hu => ?_⟩⟩
    · simp [World.cell?, World.frozen?, h2, h5]
      omega
    · have h7 : (xs.map (Value.int .i64))[j]? = some (.int .i64 u) := by rw [List.getElem?_map, hu]; rfl
      rw [← h6, List.getElem?_take] at h7
      split at h7
      · simpa [World.cell?, h2] using h7
      · cases h7
theorem below_setsC {B : Nat} {a : World} (b : Nat) (hb : B ≤ b) : ∀ (vs : List Value) (o : Nat) {w : World}, Below B a w → Below B a (w.setCells b o vs)
  | [], _, _, h => h
  | v :: r, o, _, h => below_setsC b hb r (o + 1) (h.setCell (p := ⟨b, o, none⟩) hb v)
theorem wp_appQ {wr : World} {v : Int} {ops : Array Oper} {rest : List Oper} {o : Oper} {a : Act} {Q : Exit → Act → World → Prop} (hgd : o.guard = none) (s x : Operand)
    (ho : o.op = .call { callee := .builtin .append, args := #[s, x], argTypes := #[24, 24] })
    (B : Nat) (A : Option Addr) (n c : Nat) (xs : List Int) (hs : a.eval s = .slice A n c) (hq : QS wr B A n c xs)
    (g : Nat) (hx : a.eval x = .slice (some ⟨g, 0, none⟩) 1 1) (hg : g = wr.heap.size) (hsz : n + 1 ≤ 1099511627776) (hB : B ≤ wr.heap.size)
    (h : ∀ A2 c2 w', QS w' B A2 (n + 1) c2 (xs ++ [v]) → Below B wr w' → wpList Try.prog ops Q rest (a.put o.dst (.slice A2 (n + 1) c2)) w') :
    wpList Try.prog ops Q (o :: rest) a (wr.alloc (.cells #[.int .i64 v] 3)) := by
  obtain ⟨i0, hi, hz0, hz1, hz2⟩ := info_parts Try.infoInt
  have hl1 : (xs.map (Value.int .i64)).length = n * 1 := by simp [hq.1]
  have b0 := below_new wr (.cells #[.int .i64 v] 3)
  have hn : ∀ j u, [Value.int .i64 v][j]? = some u → (wr.alloc (.cells #[.int .i64 v] 3)).cell? ((⟨g, 0, none⟩ : Addr).add j) = some u := fun j u hu => by
    obtain rfl : j = 0 := by
      rcases j with _ | j
      · rfl
      · simp at hu
    obtain rfl : Value.int .i64 v = u := by simpa using hu
    subst hg
    exact cell_one_new wr (.int .i64 v) 3 0 _ rfl
  have hG : ∀ v' w', w'.ownsRow (wr.alloc (.cells #[.int .i64 v] 3)).heap.size 3 1 v' (n + 1) (xs.map (Value.int .i64) ++ [Value.int .i64 v]) → (wr.alloc (.cells #[.int .i64 v] 3)).grownBy w' none → wpList Try.prog ops Q rest (a.put o.dst v') w' := fun v' w' h1 h2 => by
    rw [show xs.map (Value.int .i64) ++ [Value.int .i64 v] = (xs ++ [v]).map (Value.int .i64) by simp] at h1
    obtain ⟨A2, c2, rfl, hq2⟩ := QS.of_own h1 (by simp [hq.1])
    refine h A2 c2 w' ⟨hq2.1, hq2.2.1, fun hc => ?_⟩ (((Below.refl _ _).alloc hB _).grown h2 (by simp; omega) (by simp))
    obtain ⟨b, off, e, h3, h4⟩ := hq2.2.2 hc
    exact ⟨b, off, e, by simp at h3; omega, h4⟩
  by_cases hc : c = 0
  · subst hc
    have hx0 : xs = [] := List.eq_nil_of_length_eq_zero (by have := hq.1; have := hq.2.1; omega)
    have hn0 : n = 0 := by have := hq.2.1; omega
    subst hx0 hn0
    exact wpList_append_grows _ hgd s x 24 ho 3 i0 _ 1 8 Try.underlying24 hi hz0 hz1 hz2 rfl (by omega) A 0 0 [] hs (fun _ => ⟨rfl, rfl⟩) rfl (fun _ _ j u hu => by simp at hu) ⟨g, 0, none⟩ 1 1 [.int .i64 v] hx rfl hn (fun u hu => by simp at hu; subst hu; rfl) (by omega) (by unfold maxLen; omega) (by omega) hG
  · obtain ⟨b, off, rfl, hb1, hb2, hb3, hb4⟩ := hq.2.2 (by omega)
    have hq' := hq.below b0
    refine wpList_append_arg _ hgd s x 24 ho 3 i0 _ 1 8 Try.underlying24 hi hz0 hz1 hz2 rfl (by omega) b off n c (xs.map (Value.int .i64)) hs hl1 (fun j u hu => ?_) ⟨g, 0, none⟩ 1 1 [.int .i64 v] hx rfl hn (fun u hu => by simp at hu; subst hu; rfl) (fun hr j hj => ?_) (by unfold maxLen; omega) (by omega) (fun hr => ?_) (fun _ => hG)
    · rw [List.getElem?_map] at hu
      obtain ⟨x0, hx0, rfl⟩ := Option.map_eq_some_iff.1 hu
      rw [b0.cell (by exact hb2)]
      exact hb4 j x0 hx0
    · obtain rfl : j = 0 := by simpa using hj
      have h3 := hb3 n (by omega)
      rw [b0.cell (by exact hb2), b0.frozen (by exact hb2), Nat.mul_one]
      exact h3
    · have bS := below_setsC b hb1 [Value.int .i64 v] (off + n * 1) ((Below.refl _ wr).alloc hB (.cells #[.int .i64 v] 3))
      refine h (some ⟨b, off, none⟩) c _ ⟨by simp [hq.1], by omega, fun _ => ⟨b, off, rfl, hb1, Nat.lt_of_lt_of_le hb2 bS.size, fun j hj => ⟨?_, ?_⟩, fun j u hu => ?_⟩⟩ bS
      · refine World.isSome_setCells _ _ _ _ _ ?_
        rw [b0.cell (by exact hb2)]
        exact (hb3 j hj).1
      · rw [World.frozen?_setCells, b0.frozen (by exact hb2)]
        exact (hb3 j hj).2
      · rcases Nat.lt_or_ge j n with h1 | h1
        · rw [World.cell?_setCells_out b _ _ _ _ (fun _ _ => Or.inl (by simp only [Nat.mul_one]; omega)), b0.cell (by exact hb2)]
          exact hb4 j u (by rwa [List.getElem?_append_left (by rw [hq.1]; exact h1)] at hu)
        · rw [List.getElem?_append_right (by rw [hq.1]; exact h1), hq.1] at hu
          obtain ⟨e1, e2⟩ : j - n = 0 ∧ v = u := by
            rcases h5 : j - n with _ | k
            · rw [h5] at hu; simp at hu; exact ⟨rfl, hu⟩
            · rw [h5] at hu; simp at hu
          obtain rfl : j = n := by omega
          subst e2
          have := World.cell?_setCells_in b [Value.int .i64 v] (off + j * 1) (wr.alloc (.cells #[.int .i64 v] 3)) (fun i hi => by
            obtain rfl : i = 0 := by simpa using hi
            have h3 := hb3 j (by omega)
            rw [b0.cell (by exact hb2), Nat.mul_one]
            exact h3.1) 0 (by simp)
          simpa using this
theorem QS.one {w : World} {B : Nat} (v : Int) (hB : B ≤ w.heap.size) : QS (w.alloc (.cells #[.int .i64 v] 3)) B (some ⟨w.heap.size, 0, none⟩) 1 1 [v] := by
  have h := own_new w [v] 1 rfl (by omega)
  obtain ⟨A, c, e, hq⟩ := QS.of_own (h.mono hB) rfl
  injection e with e1 _ e2
  subst e1 e2
  exact hq
end

section
open Go.RowKit Flo
set_option linter.unusedVariables false

/-- A search from one node that has seen another one, with the way to it. -/
structure PathI (K : Nat) (r : Nat → Nat → Int) (a : Nat) (g : Nat → Int) (par : Nat → Nat) (seen : List Nat) (k i0 : Nat) (l0 : List Nat) : Prop where
  bfs : Bfs K r (fun v => v == a) par seen k
  bk : BkI K g par seen
  way : Flo.Way (fun v => v == a) par seen i0 l0
  i0 : i0 < seen.length
section
variable {K a : Nat} {r : Nat → Nat → Int} {g : Nat → Int} {par : Nat → Nat} {seen : List Nat} {k i0 i : Nat} {l0 l : List Nat}
theorem PathI.no (h : PathI K r a g par seen k i0 l0) (hi : i < seen.length) (hw : Flo.Way (fun v => v == a) par seen i l) (hr : sn seen i ≠ a) :
    ∃ j l', l = i :: l' ∧ j < i ∧ g (sn seen i) = (sn seen j : Int) ∧ par (sn seen i) = sn seen j ∧ Flo.Way (fun v => v == a) par seen j l' ∧ sn seen j < K ∧ sn seen i < K ∧ sn seen j ≠ sn seen i ∧ 0 < r (sn seen j) (sn seen i) := by
  have h1 := (h.bk _ (h.bfs.lt i hi)).1 (mem_sn.2 ⟨i, hi, rfl⟩)
  obtain ⟨j, l', e, e2, hj, hw2⟩ := hw.no (by simpa using hr)
  obtain ⟨j2, hj2, e3, hp⟩ := h.bfs.par_ i hi (by simpa using hr)
  exact ⟨j, l', e, hj, by rw [← e2]; exact h1, e2, hw2, h.bfs.lt j (by omega), h.bfs.lt i hi, h.bfs.nd j i hj hi, by rw [← e2, e3]; exact hp⟩
theorem PathI.yes (hw : Flo.Way (fun v => v == a) par seen i l) (hr : sn seen i = a) : l = [] := hw.yes (by simpa using hr)
theorem BkI.start : BkI K (fun v => if v = a then (a : Int) else if v < K then -1 else 0) (fun _ => a) [a] := fun v hv => by
  refine ⟨fun hm => ?_, fun hn => ?_⟩
  · exact if_pos (List.mem_singleton.1 hm)
  · exact (if_neg (fun e => hn (List.mem_singleton.2 e))).trans (if_pos hv)
theorem BkI.ge (h : BkI K g par seen) {v : Nat} (hv : v < K) : (v ∈ seen → 0 ≤ g v) ∧ (v ∉ seen → g v = -1) := ⟨fun hm => by rw [(h v hv).1 hm]; omega, (h v hv).2⟩
/-- How many nodes the vector in memory shows as seen. -/
def seenAt (w : World) (T K : Nat) : Int := sm K fun v => if intOf ((w.cell? ⟨T, v, none⟩).getD (.int .i64 0)) < 0 then 0 else 1
def lenQ : Value → Nat
  | .slice _ n _ => n
  | _ => 0
theorem seenAt_of {w : World} {T : Nat} {root : Nat → Bool} (h : Vec w T (T + 1) (some ⟨T, 0, none⟩) K K g) (hb : BkI K g par seen) (hf : Bfs K r root par seen k) : seenAt w T K = seen.length := by
  unfold seenAt
  rw [hf.cnt]
  refine sm_congr fun v hv => ?_
  obtain ⟨b, e, hc, _⟩ := vec_cell h hv
  obtain rfl : T = b := congrArg Addr.block (Option.some.inj e)
  rw [hc]
  have h1 := BkI.ge hb hv
  by_cases hm : v ∈ seen
  · rw [if_pos hm, if_neg (by have := h1.1 hm; simp [intOf]; omega)]
  · rw [if_neg hm, if_pos (by rw [h1.2 hm]; simp [intOf])]
theorem drop_sn : ∀ {l : List Nat} {k : Nat}, k < l.length → l.drop k = sn l k :: l.drop (k + 1)
  | [], k, h => absurd h (by simp)
  | x :: l, 0, _ => by simp [sn]
  | x :: l, k + 1, h => by
    have := drop_sn (l := l) (k := k) (by simpa using h)
    simpa [sn] using this
theorem nums_drop_snoc {l : List Nat} {k v : Nat} (h : k ≤ l.length) : nums ((l ++ [v]).drop k) = nums (l.drop k) ++ [(v : Int)] := by rw [List.drop_append_of_le_length h, nums_snoc]
theorem most_of {s L : Int} {b : Nat} {par : Nat → Nat} (h : Bfs K r (fun v => v == a) par seen seen.length) (ha : a < K) (hb : b ∉ seen) : Most K r a b s L :=
  .inr ⟨fun v => decide (v ∈ seen), decide_eq_true (h.roots a ha (by simp)), decide_eq_false hb, fun u v hu hv h1 h2 => h.cut hv (of_decide_eq_true h1) (of_decide_eq_false h2)⟩
theorem push_row {W : World} {lo hi c T u : Nat} {A : Option Addr} (hM : Mat W lo hi A K c K r) (hT : W.heap.size = T) (hu : u < K) : ∃ g1 gr cr, A = some ⟨g1, 0, none⟩ ∧ ∀ w', Below T W w' → w'.cell? ⟨g1, u, none⟩ = some (.slice (some ⟨gr, 0, none⟩) K cr) ∧ ∀ v, v < K → w'.cell? ⟨gr, v, none⟩ = some (.int .i64 (r u v)) := by
  obtain ⟨g1, gr, cr, e, h1, h2, _, _, _, h3, _, _, h4, _⟩ := mat_cell hM hu hu
  refine ⟨g1, gr, cr, e, fun w' hb => ⟨(hb.cell (by show g1 < T; omega)).trans h1, fun v hv => (hb.cell (by show gr < T; omega)).trans ?_⟩⟩
  obtain ⟨g1', gr', cr', e', h1', h2', _⟩ := mat_cell hM hu hv
  obtain rfl : g1 = g1' := congrArg Addr.block (Option.some.inj (e.symm.trans e'))
  rw [h1] at h1'
  injection h1' with h1'
  injection h1' with h5
  injection h5 with h5
  injection h5 with h5
  subst h5
  exact h2'
/-- One step back along the way, of what is sent. -/
theorem push_bd {r' : Nat → Nat → Int} {b u v : Nat} {s B : Int} (h : Sent K r r' a b s) (h0 : ∀ u v, u < K → v < K → 0 ≤ r u v ∧ r u v + r v u ≤ B) (hu : u < K) (hv : v < K) : 0 ≤ r' u v ∧ r' u v + r' v u ≤ B := by
  have h1 := h.nn u v hu hv
  have h2 := h.sym u v hu hv
  have h3 := h0 u v hu hv
  omega
end
end
end Go.Proofs.Ytcjmapdeopffcaa
