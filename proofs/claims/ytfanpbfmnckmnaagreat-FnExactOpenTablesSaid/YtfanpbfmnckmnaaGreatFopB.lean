/- Operations on fractions, of the reference and of the program. -/
import Derived.Test.YtfanpbfmnckmnaaGreatRedB
namespace Go.Proofs.YtfanpbfmnckmnaaGreat
open Go.RowKit

theorem make_neg {n d : Int} (h : d < 0) : n.tdiv (-((Int.gcd n d : Nat) : Int)) = redP n d ∧ d.tdiv (-((Int.gcd n d : Nat) : Int)) = redQ n d := by
  have h1 := (tdiv_sign (n := n) (d := d) (by omega)).2 h
  unfold redP redQ
  rw [if_pos h1, if_pos h1, Int.tdiv_neg, Int.tdiv_neg]
  exact ⟨rfl, rfl⟩
theorem make_pos {n d : Int} (hd : d ≠ 0) (h : ¬ d < 0) : n.tdiv ((Int.gcd n d : Nat) : Int) = redP n d ∧ d.tdiv ((Int.gcd n d : Nat) : Int) = redQ n d := by
  have h1 : ¬ d.tdiv (Int.gcd n d : Nat) < 0 := fun h2 => h ((tdiv_sign hd).1 h2)
  unfold redP redQ
  rw [if_neg h1, if_neg h1]
  exact ⟨rfl, rfl⟩
theorem redO_zero (n : Int) : redO n 0 = none := by unfold redO; rw [if_pos rfl]
theorem redO_good {n d : Int} (hd : d ≠ 0) (h : fracB (redP n d) (redQ n d) = true) : redO n d = some (redP n d, redQ n d) := by
  have := fracB_of h
  exact redO_yes hd ⟨this.2.2.1, this.2.2.2.1, this.2.1⟩
theorem redO_bad {n d : Int} (hd : d ≠ 0) (h : fracB (redP n d) (redQ n d) = false) : redO n d = none := by
  refine redO_no hd fun hb => ?_
  rw [fracB_4 (inR_yes (redQ_pos hd) hb.2.2) (inR_yes hb.1 hb.2.1) (red_gcd hd)] at h
  cases h
theorem redP_bd {n d : Int} (hd : d ≠ 0) (h0 : -9000000000000000000 ≤ n) (h1 : n ≤ 9000000000000000000) : -9000000000000000000 ≤ redP n d ∧ redP n d ≤ 9000000000000000000 := by
  have := tdiv_abs n _ (gcd_pos (n := n) hd)
  unfold redP; split <;> omega
theorem redQ_bd {n d : Int} (hd : d ≠ 0) (h0 : -9000000000000000000 ≤ d) (h1 : d ≤ 9000000000000000000) : -9000000000000000000 ≤ redQ n d ∧ redQ n d ≤ 9000000000000000000 := by
  have := tdiv_abs d _ (gcd_pos (n := n) hd)
  unfold redQ; split <;> omega
theorem mulN_bd {a b : Int} (A B : Nat) (ha : a.natAbs ≤ A) (hb : b.natAbs ≤ B) : (a * b).natAbs ≤ A * B := by
  rw [Int.natAbs_mul]; exact Nat.mul_le_mul ha hb
theorem gcd_ne {n d : Int} (hd : d ≠ 0) : ¬ ((Int.gcd n d : Nat) : Int) = 0 := by have := gcd_pos (n := n) hd; omega

set_option maxRecDepth 100000 in
set_option maxHeartbeats 2000000 in
theorem fMake_any (n d : Int) (w : World) (hn : -9000000000000000000 ≤ n) (hn2 : n ≤ 9000000000000000000) (hd : -9000000000000000000 ≤ d) (hd2 : d ≤ 9000000000000000000) :
    Calls Tryz.prog 199 #[.int .i64 n, .int .i64 d] w fun e w' => e = .returned (.tuple #[.agg #[.int .i64 (fN (redO n d)), .int .i64 (fD (redO n d))], .bool (fB (redO n d))]) ∧ Below w.heap.size w w' := by
  have x4 := box_new w #[.int .i64 0, .int .i64 0] 40
  have b4 := below_new w (.cells #[.int .i64 0, .int .i64 0] 40)
  by_cases hd0 : d = 0
  · subst hd0
    have R := Lib.hid (redO_zero n)
    go_enter Tryz.func199, Tryz.ntmps199
    go_wp2
    refine bodyPost_ret (v := .tuple #[.agg #[.int .i64 0, .int .i64 0], .bool false]) (by simp [results, Tryz.results199, go_sem]) rfl ⟨fr_no R.out, b4⟩
  · have RY := Lib.hid (redO_good (n := n) hd0)
    have RO := Lib.hid (redO_bad (n := n) hd0)
    have RP := redP_bd hd0 hn hn2
    have RQ := redQ_bd (n := n) hd0 hd hd2
    have G1 := gcd_pos (n := n) hd0
    have hP1 := RP.1
    have hP2 := RP.2
    have hQ1 := RQ.1
    have hQ2 := RQ.2
    clear RP RQ
    have MN := Lib.hid (make_neg (n := n) (d := d))
    have MP := Lib.hid (make_pos (n := n) hd0)
    have G2 : ((Int.gcd n d : Nat) : Int) ≤ 9000000000000000000 := by
      have h1 : Int.gcd n d ≤ d.natAbs := Nat.le_of_dvd (by omega) (Int.gcd_dvd_natAbs_right n d)
      omega
    go_enter Tryz.func199, Tryz.ntmps199
    go_wp2_with fail
    generalize w.alloc (.cells #[.int .i64 0, .int .i64 0] 40) = w0 at *
    refine (fGcd_any _ _ _ hn hn2 hd hd2).mono ?_
    rintro e w1 ⟨rfl, b1⟩
    replace x4 := box_below x4 b1
    replace b1 := b4.trans (b1.mono b4.size)
    clear b4
    generalize ((Int.gcd n d : Nat) : Int) = G at *
    generalize redP n d = P at *
    generalize redQ n d = Q at *
    by_cases hneg : d < 0
    · have t1 : -n.tdiv G = P := (by have := (MN.out hneg).1; rw [Int.tdiv_neg] at this; exact this)
      have t2 : -d.tdiv G = Q := (by have := (MN.out hneg).2; rw [Int.tdiv_neg] at this; exact this)
      have u1 : -9000000000000000000 ≤ -n.tdiv G := by omega
      have u2 : -n.tdiv G ≤ 9000000000000000000 := by omega
      have u3 : -9000000000000000000 ≤ -d.tdiv G := by omega
      have u4 : -d.tdiv G ≤ 9000000000000000000 := by omega
      replace t1 := Lib.hid t1
      replace t2 := Lib.hid t2
      clear MN MP
      go_wp2
      go_region
      rw [t1.out, t2.out]
      clear t1 t2 u1 u2 u3 u4
      have b2 := (below_new w1 (.cells #[.int .i64 P, .int .i64 Q] 40)).drew
      have x7 := box_below (box_new w1 #[.int .i64 P, .int .i64 Q] 40) (Below.refl (w1.alloc (.cells #[.int .i64 P, .int .i64 Q] 40)).heap.size _).drew
      replace x4 := box_below x4 b2
      have h4 := b1.size
      replace b2 := b1.trans (b2.mono b1.size)
      generalize (w1.alloc (.cells #[.int .i64 P, .int .i64 Q] 40)).drew = w2 at *
      clear b1
      have c0 := box_cell x7 0 _ rfl
      have c1 := box_cell x7 1 _ rfl
      go_wp2_with fail
      refine (fGood_any _ _ _).mono ?_
      rintro e w3 ⟨rfl, b3⟩
      replace x4 := box_below x4 b3
      replace x7 := box_below x7 b3
      replace b3 := b2.trans (b3.mono b2.size)
      clear b2 c0 c1
      have d0 := box_cell x4 0 _ rfl
      have d1 := box_cell x4 1 _ rfl
      have f0 := box_free x4 0
      have f1 := box_free x4 1
      have c0 := box_cell x7 0 _ rfl
      have c1 := box_cell x7 1 _ rfl
      cases hB : fracB P Q
      · have R := Lib.hid (RO.out hB)
        clear hB RY RO
        have y4 := store_two x4 (.int .i64 0) (.int .i64 0)
        have e0 := box_cell y4 0 _ rfl
        have e1 := box_cell y4 1 _ rfl
        go_wp2
        refine bodyPost_ret (v := .tuple #[.agg #[.int .i64 0, .int .i64 0], .bool false]) (by simp [results, Tryz.results199, go_sem, e0, e1]) rfl ⟨fr_no R.out, below_two b3 (by omega)⟩
      · have R := Lib.hid (RY.out hB)
        clear hB RY RO
        have y4 := store_two x4 (.int .i64 P) (.int .i64 Q)
        have e0 := box_cell y4 0 _ rfl
        have e1 := box_cell y4 1 _ rfl
        go_wp2
        refine bodyPost_ret (v := .tuple #[.agg #[.int .i64 P, .int .i64 Q], .bool true]) (by simp [results, Tryz.results199, go_sem, e0, e1]) rfl ⟨fr_yes R.out, below_two b3 (by omega)⟩
    · have t1 : n.tdiv G = P := (by have := (MP.out (by omega)).1; exact this)
      have t2 : d.tdiv G = Q := (by have := (MP.out (by omega)).2; exact this)
      have u1 : -9000000000000000000 ≤ n.tdiv G := by omega
      have u2 : n.tdiv G ≤ 9000000000000000000 := by omega
      have u3 : -9000000000000000000 ≤ d.tdiv G := by omega
      have u4 : d.tdiv G ≤ 9000000000000000000 := by omega
      replace t1 := Lib.hid t1
      replace t2 := Lib.hid t2
      clear MN MP
      go_wp2
      go_region
      rw [t1.out, t2.out]
      clear t1 t2 u1 u2 u3 u4
      have b2 := (below_new w1 (.cells #[.int .i64 P, .int .i64 Q] 40)).drew
      have x7 := box_below (box_new w1 #[.int .i64 P, .int .i64 Q] 40) (Below.refl (w1.alloc (.cells #[.int .i64 P, .int .i64 Q] 40)).heap.size _).drew
      replace x4 := box_below x4 b2
      have h4 := b1.size
      replace b2 := b1.trans (b2.mono b1.size)
      generalize (w1.alloc (.cells #[.int .i64 P, .int .i64 Q] 40)).drew = w2 at *
      clear b1
      have c0 := box_cell x7 0 _ rfl
      have c1 := box_cell x7 1 _ rfl
      go_wp2_with fail
      refine (fGood_any _ _ _).mono ?_
      rintro e w3 ⟨rfl, b3⟩
      replace x4 := box_below x4 b3
      replace x7 := box_below x7 b3
      replace b3 := b2.trans (b3.mono b2.size)
      clear b2 c0 c1
      have d0 := box_cell x4 0 _ rfl
      have d1 := box_cell x4 1 _ rfl
      have f0 := box_free x4 0
      have f1 := box_free x4 1
      have c0 := box_cell x7 0 _ rfl
      have c1 := box_cell x7 1 _ rfl
      cases hB : fracB P Q
      · have R := Lib.hid (RO.out hB)
        clear hB RY RO
        have y4 := store_two x4 (.int .i64 0) (.int .i64 0)
        have e0 := box_cell y4 0 _ rfl
        have e1 := box_cell y4 1 _ rfl
        go_wp2
        refine bodyPost_ret (v := .tuple #[.agg #[.int .i64 0, .int .i64 0], .bool false]) (by simp [results, Tryz.results199, go_sem, e0, e1]) rfl ⟨fr_no R.out, below_two b3 (by omega)⟩
      · have R := Lib.hid (RY.out hB)
        clear hB RY RO
        have y4 := store_two x4 (.int .i64 P) (.int .i64 Q)
        have e0 := box_cell y4 0 _ rfl
        have e1 := box_cell y4 1 _ rfl
        go_wp2
        refine bodyPost_ret (v := .tuple #[.agg #[.int .i64 P, .int .i64 Q], .bool true]) (by simp [results, Tryz.results199, go_sem, e0, e1]) rfl ⟨fr_yes R.out, below_two b3 (by omega)⟩

/-- An absolute value of at most 1000000000. -/
def sm (x : Int) : Prop := x.natAbs ≤ 1000000000
theorem sm_lo {x : Int} (h : sm x) : -1000000000 ≤ x := by unfold sm at h; omega
theorem sm_hi {x : Int} (h : sm x) : x ≤ 1000000000 := by unfold sm at h; omega
theorem sm_of {x : Int} (h0 : -1000000000 ≤ x) (h1 : x ≤ 1000000000) : sm x := by unfold sm; omega
theorem sm_mul {a b : Int} (ha : sm a) (hb : sm b) : -1000000000000000000 ≤ a * b ∧ a * b ≤ 1000000000000000000 := by
  have := mulN_bd _ _ ha hb
  omega
theorem box_3f (w : World) (cs ds es : Array Value) (T U V : TypeId) :
    Below w.heap.size w (((w.alloc (.cells cs T)).alloc (.cells ds U)).alloc (.cells es V)) ∧ (((w.alloc (.cells cs T)).alloc (.cells ds U)).alloc (.cells es V)).heap[w.heap.size]? = some (.cells cs T (0, 0)) ∧
    (((w.alloc (.cells cs T)).alloc (.cells ds U)).alloc (.cells es V)).heap[w.heap.size + 1]? = some (.cells ds U (0, 0)) ∧ (((w.alloc (.cells cs T)).alloc (.cells ds U)).alloc (.cells es V)).heap[w.heap.size + 1 + 1]? = some (.cells es V (0, 0)) := by
  obtain ⟨b0, x0, x1⟩ := box_two w cs ds T U
  have b1 := below_new ((w.alloc (.cells cs T)).alloc (.cells ds U)) (.cells es V)
  have h := heap_alloc_new ((w.alloc (.cells cs T)).alloc (.cells ds U)) (.cells es V)
  exact ⟨b0.trans (b1.mono b0.size), box_below x0 b1, box_below x1 b1, by simpa using h⟩

set_option maxHeartbeats 400000 in
theorem fInt_any (n : Int) (w : World) :
    Calls Tryz.prog 168 #[.int .i64 n] w fun e w' => e = .returned (.agg #[.int .i64 n, .int .i64 1]) ∧ Below w.heap.size w w' := by
  go_enter Tryz.func168, Tryz.ntmps168
  go_wp2
  exact bodyPost_ret (v := .agg #[.int .i64 n, .int .i64 1]) (by simp [results, Tryz.results168, go_sem]) rfl ⟨rfl, below_new _ _⟩

set_option maxHeartbeats 800000 in
theorem fMul_any (n d p q : Int) (w : World) (hn : sm n) (hd : sm d) (hp : sm p) (hq : sm q) :
    Calls Tryz.prog 169 #[.agg #[.int .i64 n, .int .i64 d], .agg #[.int .i64 p, .int .i64 q]] w fun e w' => e = .returned (.tuple #[.agg #[.int .i64 (fN (redO (n * p) (d * q))), .int .i64 (fD (redO (n * p) (d * q)))], .bool (fB (redO (n * p) (d * q)))]) ∧ Below w.heap.size w w' := by
  have m0 := sm_mul hn hp
  have m1 := sm_mul hd hq
  obtain ⟨m0a, m0b⟩ := m0
  obtain ⟨m1a, m1b⟩ := m1
  obtain ⟨b0, x0, x1, x4⟩ := box_3f w #[.int .i64 n, .int .i64 d] #[.int .i64 p, .int .i64 q] #[.int .i64 0, .int .i64 0] 40 40 40
  go_enter Tryz.func169, Tryz.ntmps169
  go_wp2_with fail
  generalize ((w.alloc (.cells #[.int .i64 n, .int .i64 d] 40)).alloc (.cells #[.int .i64 p, .int .i64 q] 40)).alloc (.cells #[.int .i64 0, .int .i64 0] 40) = w0 at *
  refine (fMake_any _ _ _ (by omega) (by omega) (by omega) (by omega)).mono ?_
  rintro e w1 ⟨rfl, b1⟩
  replace x4 := box_below x4 b1
  replace b1 := b0.trans (b1.mono b0.size)
  clear b0
  have d0 := box_cell x4 0 _ rfl
  have d1 := box_cell x4 1 _ rfl
  have f0 := box_free x4 0
  have f1 := box_free x4 1
  have y4 := store_two x4 (.int .i64 (fN (redO (n * p) (d * q)))) (.int .i64 (fD (redO (n * p) (d * q))))
  have e0 := box_cell y4 0 _ rfl
  have e1 := box_cell y4 1 _ rfl
  clear m0a m0b m1a m1b
  go_wp2
  refine bodyPost_ret (v := .tuple #[.agg #[.int .i64 (fN (redO (n * p) (d * q))), .int .i64 (fD (redO (n * p) (d * q)))], .bool (fB (redO (n * p) (d * q)))]) (by simp [results, Tryz.results169, go_sem, e0, e1]) rfl ⟨rfl, below_two b1 (by omega)⟩

set_option maxHeartbeats 800000 in
theorem fAdd_any (n d p q : Int) (w : World) (hn : sm n) (hd : sm d) (hp : sm p) (hq : sm q) :
    Calls Tryz.prog 170 #[.agg #[.int .i64 n, .int .i64 d], .agg #[.int .i64 p, .int .i64 q]] w fun e w' => e = .returned (.tuple #[.agg #[.int .i64 (fN (redO (n * q + p * d) (d * q))), .int .i64 (fD (redO (n * q + p * d) (d * q)))], .bool (fB (redO (n * q + p * d) (d * q)))]) ∧ Below w.heap.size w w' := by
  have m0 := sm_mul hn hq
  have m1 := sm_mul hp hd
  have m2 := sm_mul hd hq
  obtain ⟨m0a, m0b⟩ := m0
  obtain ⟨m1a, m1b⟩ := m1
  obtain ⟨m2a, m2b⟩ := m2
  obtain ⟨b0, x0, x1, x4⟩ := box_3f w #[.int .i64 n, .int .i64 d] #[.int .i64 p, .int .i64 q] #[.int .i64 0, .int .i64 0] 40 40 40
  go_enter Tryz.func170, Tryz.ntmps170
  go_wp2_with fail
  generalize ((w.alloc (.cells #[.int .i64 n, .int .i64 d] 40)).alloc (.cells #[.int .i64 p, .int .i64 q] 40)).alloc (.cells #[.int .i64 0, .int .i64 0] 40) = w0 at *
  refine (fMake_any _ _ _ (by omega) (by omega) (by omega) (by omega)).mono ?_
  rintro e w1 ⟨rfl, b1⟩
  replace x4 := box_below x4 b1
  replace b1 := b0.trans (b1.mono b0.size)
  clear b0
  have d0 := box_cell x4 0 _ rfl
  have d1 := box_cell x4 1 _ rfl
  have f0 := box_free x4 0
  have f1 := box_free x4 1
  have y4 := store_two x4 (.int .i64 (fN (redO (n * q + p * d) (d * q)))) (.int .i64 (fD (redO (n * q + p * d) (d * q))))
  have e0 := box_cell y4 0 _ rfl
  have e1 := box_cell y4 1 _ rfl
  clear m0a m0b m1a m1b
  go_wp2
  refine bodyPost_ret (v := .tuple #[.agg #[.int .i64 (fN (redO (n * q + p * d) (d * q))), .int .i64 (fD (redO (n * q + p * d) (d * q)))], .bool (fB (redO (n * q + p * d) (d * q)))]) (by simp [results, Tryz.results170, go_sem, e0, e1]) rfl ⟨rfl, below_two b1 (by omega)⟩

/-- A quotient. -/
def divO (n d p q : Int) : Option (Int × Int) := if p = 0 then none else redO (n * q) (d * p)
theorem divO_no {n d p q : Int} (h : p = 0) : divO n d p q = none := by unfold divO; rw [if_pos h]
theorem divO_yes {n d p q : Int} (h : ¬ p = 0) : divO n d p q = redO (n * q) (d * p) := by unfold divO; rw [if_neg h]

set_option maxHeartbeats 800000 in
theorem fCmp_any (n d p q : Int) (w : World) (hn : sm n) (hd : sm d) (hp : sm p) (hq : sm q) :
    Calls Tryz.prog 207 #[.agg #[.int .i64 n, .int .i64 d], .agg #[.int .i64 p, .int .i64 q]] w fun e w' => e = .returned (.int .i64 (Int.sign (n * q - p * d))) ∧ Below w.heap.size w w' := by
  obtain ⟨m0a, m0b⟩ := sm_mul hn hq
  obtain ⟨m1a, m1b⟩ := sm_mul hp hd
  obtain ⟨b0, x0, x1⟩ := box_two w #[.int .i64 n, .int .i64 d] #[.int .i64 p, .int .i64 q] 40 40
  go_enter Tryz.func207, Tryz.ntmps207
  go_wp2_with fail
  refine (l1Sign_fr _ _).mono ?_
  rintro e w1 ⟨rfl, rfl⟩
  clear m0a m0b m1a m1b
  go_wp2
  go_ret
  exact ⟨rfl, b0⟩

theorem fdiv_eq {n d : Int} (hd : 0 < d) : (if n.tmod d < 0 then n.tdiv d - 1 else n.tdiv d) = n / d := by
  have h1 := Int.mul_tdiv_add_tmod n d
  have h2 := Int.tmod_lt_of_pos n hd
  have h3 := tmod_natAbs n d
  have h4 := Nat.mod_lt n.natAbs (show 0 < d.natAbs by omega)
  rw [← h3] at h4
  split
  · exact ((Int.ediv_emod_unique (r := n.tmod d + d) hd).2 ⟨by rw [Int.mul_sub]; omega, by omega, by omega⟩).1.symm
  · exact ((Int.ediv_emod_unique (r := n.tmod d) hd).2 ⟨by omega, by omega, by omega⟩).1.symm

end Go.Proofs.YtfanpbfmnckmnaaGreat
