/- 'm[k]++' at a map of the call's own whose keys are arrays: the operations lookup, mapEntry, entryStore. -/
import Derived.Test.YtahbcnclhohnaaaGreatRows
import Derived.WalkKit
import Derived.WideKeyEntry
import Derived.Maps.OwnOps
import Derived.Maps.Views
import Derived.Maps.RangeWalk
namespace Go.Proofs.YtahbcnclhohnaaaGreat
open Go.RowKit Go.Maps Go.MapKept Go.ChangeMaps Go.ChangeShapes Go.WideShapes

theorem setBlock_two (w : World) (b : Nat) (x y : Obj) : setBlock (setBlock w b x) b y = setBlock w b y := by simp [setBlock]
theorem entry_own {H : Type} {P : Program} {w : World} {t k e : TypeId} {b n : Nat} {D : DataW H} (h : w.ownsMap P k (plainElem P e) b n D) (K : WideMaps.KeyLaw P k) (ht : P.underlying t = some (.map k e)) (he : P.underlying e = some (.int .i64)) (hz : ∀ u : World, (zeroValue e).run P u = .ok (.int .i64 0) u) (hn : n < maxLen) {key : Value} {kl : Lit} (hkey : keyOf P k key = some kl) :
    ∃ (c : Int) (v0 : Value) (st : Nat) (w6 : World), (Instr.lookup t (.map (some b)) key false).run P w = .ok (.int .i64 c) w ∧ D.atKey kl (.lit (.int .i64 0)) = .lit (.int .i64 c) ∧ (Instr.mapEntry t (.map (some b)) key).run P w = .ok (.tuple #[v0, goInt st]) w6 ∧ (Instr.lookup t (.map (some b)) key false).run P w6 = .ok (.int .i64 c) w6 ∧
      ∀ val, (Lit.int .i64 val).wf = true → ∃ w7, (Instr.entryStore t (.map (some b)) (goInt st) (.int .i64 val)).run P w6 = .ok () w7 ∧ w7.ownsMap P k (plainElem P e) b (n + 1) (D.put kl (.lit (.int .i64 val))) ∧ w.grownBy w7 (some b) := by
  have KK : Keyed P k := Keyed.of_law K
  obtain ⟨c, hl, hat, hwc⟩ := h.lookup_int KK ht he (hz w) hkey
  have h0 := h
  obtain ⟨es, clock, hb, F, hs, hD⟩ := h0
  obtain ⟨v0, st, es1, clock1, hE, hv0, hS⟩ := WideElems.entry_then_store K ht hz hb F hkey
  refine ⟨c, v0, st, setBlock w b (.map es1 clock1), hl, hat, hE, ?_, fun val hwf => ?_⟩
  · rcases K.find w hkey es.toList F.keys with ⟨h1, h2⟩ | ⟨j, e0, h1, h2, h3⟩
    · have hE2 : (Instr.mapEntry t (.map (some b)) key).run P w = .ok (.tuple #[.int .i64 0, goInt clock]) (setBlock w b (.map (es.push ⟨key, .int .i64 0, clock⟩) (clock + 1))) := by
        simp [Instr.mapEntry, run_underlying ht, MapKept.run_getObj_map hb, K.check w false hkey, h1, hz, MapKept.run_setObj_map _ hb, Result.andThen, setBlock]
      have hU : (Instr.mapUpdate t (.map (some b)) key (.int .i64 0)).run P w = .ok () (setBlock w b (.map (es.push ⟨key, .int .i64 0, clock⟩) (clock + 1))) := by
        simp [Instr.mapUpdate, run_underlying ht, MapKept.run_getObj_map hb, K.check w false hkey, h1, MapKept.run_setObj_map _ hb, Result.andThen, setBlock]
      have e6 := (Result.ok.inj (hE.symm.trans hE2)).2
      obtain ⟨w', hr, ho, _⟩ := h.update KK ht hn hkey (val := .int .i64 0) (plainElem_int he (by decide))
      have ew := (Result.ok.inj (hr.symm.trans hU)).2
      rw [e6, ← ew]
      obtain ⟨c', hl', hat', _⟩ := ho.lookup_int KK ht he (hz w') hkey
      rw [atKey_put_same ⟨_, hD⟩ (KK.key hkey)] at hat'
      have hat2 : D.atKey kl (.lit (.int .i64 0)) = .lit (.int .i64 0) := by rw [hD]; exact WideElems.atKey_none K F hkey h2 _
      rw [hat2] at hat
      have ec : c' = c := by
        have e9 := hat'.symm.trans hat
        simpa using e9
      rw [ec] at hl'
      exact hl'
    · have hj : es[j]? = some e0 := by simpa using h2
      have hsame : es.modify j (fun e => { e with key := key }) = es := by
        apply Array.ext'
        rw [Array.toList_modify, modify_eq_set _ _ _ _ h2]
        have : ({ e0 with key := key } : MapEntry) = e0 := by rw [← h3]
        rw [this]
        exact WideElems.set_self _ _ _ h2
      have hE2 : (Instr.mapEntry t (.map (some b)) key).run P w = .ok (.tuple #[e0.val, goInt e0.born]) (setBlock w b (.map es clock)) := by
        simp [Instr.mapEntry, run_underlying ht, MapKept.run_getObj_map hb, K.check w false hkey, h1, hj, h3, K.stays w hkey, hsame, MapKept.run_setObj_map _ hb, Result.andThen, setBlock]
      have e6 := (Result.ok.inj (hE.symm.trans hE2)).2
      rw [e6]
      have h6 : (setBlock w b (.map es clock)).ownsMap P k (plainElem P e) b n D := ⟨es, clock, heap_setBlock_same hb _, F, hs, hD⟩
      obtain ⟨c', hl', hat', _⟩ := h6.lookup_int KK ht he (hz _) hkey
      have ec : c' = c := by
        have e9 := hat'.symm.trans hat
        simpa using e9
      rw [ec] at hl'
      exact hl'
  · obtain ⟨es', clock', hst, hup⟩ := hS _ (.int .i64 val) (heap_setBlock_same hb _)
    obtain ⟨w', hr, ho, hg⟩ := h.update KK ht hn hkey (val := .int .i64 val) (plainElem_int he hwf)
    have ew := (Result.ok.inj (hr.symm.trans hup)).2
    rw [setBlock_two, ← ew] at hst
    exact ⟨w', hst, ho, hg⟩
end Go.Proofs.YtahbcnclhohnaaaGreat
