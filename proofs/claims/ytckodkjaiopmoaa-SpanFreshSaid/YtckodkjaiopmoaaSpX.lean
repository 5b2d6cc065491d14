/-
  Span: edits undone, and undone again.
-/
import Derived.Test.YtckodkjaiopmoaaSpT
namespace Go.Ex
open Go.Proofs
set_option linter.unusedVariables false

theorem drop_sum {α : Type} (l : List α) (a b : Int) (ha : 0 ≤ a) (hab : a ≤ b) : (l.drop a.toNat).drop (b - a).toNat = l.drop b.toNat := by
  rw [List.drop_drop]; congr 1; omega
theorem undo_core (s t : ByteArray) : ∀ (L : List Ed) (d m : Int), chkGo s.size L d = 0 → 0 ≤ d → d ≤ s.size → 0 ≤ d + m → d + m ≤ t.size → (byl t).drop (d + m).toNat = restGo s L d →
    chkGo t.size (undoGo s L m) (d + m) = 0 ∧ restGo t (undoGo s L m) (d + m) = (byl s).drop d.toNat ∧ undoGo t (undoGo s L m) (-m) = L ∧
    (undoGo s L m).length = L.length ∧ ∀ i, i < L.length → t.extract ((undoGo s L m).getD i edR.dflt).f.toNat ((undoGo s L m).getD i edR.dflt).t.toNat = (L.getD i edR.dflt).s ∧ ((undoGo s L m).getD i edR.dflt).s = s.extract (L.getD i edR.dflt).f.toNat (L.getD i edR.dflt).t.toNat ∧
      0 ≤ ((undoGo s L m).getD i edR.dflt).f ∧ ((undoGo s L m).getD i edR.dflt).f ≤ ((undoGo s L m).getD i edR.dflt).t ∧ ((undoGo s L m).getD i edR.dflt).t ≤ t.size
  | [], d, m, _, h0, h1, h2, h3, h4 => by
    refine ⟨rfl, ?_, rfl, rfl, fun i hi => by simp at hi⟩
    simp only [undoGo, restGo]
    simpa [restGo] using h4
  | x :: r, d, m, h, h0, h1, h2, h3, h4 => by
    simp only [chkGo] at h
    split at h
    · omega
    rename_i hc
    simp only [restGo] at h4
    have hA : (((byl s).take x.f.toNat).drop d.toNat).length = (x.f - d).toNat := by rw [List.length_drop, List.length_take, byl_len]; omega
    have hlen := congrArg List.length h4
    simp only [List.length_append, List.length_drop, List.length_take, byl_len] at hlen
    have e1 : (byl t).drop (x.f + m).toNat = byl x.s ++ restGo s r x.t := by
      rw [← drop_sum (byl t) (d + m) (x.f + m) h2 (by omega), h4, List.append_assoc, show (x.f + m - (d + m)).toNat = (x.f - d).toNat by omega, ← hA, List.drop_left]
    have e2 : (byl t).drop (x.f + m + x.s.size).toNat = restGo s r x.t := by
      rw [← drop_sum (byl t) (x.f + m) (x.f + m + x.s.size) (by omega) (by omega), e1, show (x.f + m + x.s.size - (x.f + m)).toNat = (byl x.s).length by rw [byl_len]; omega, List.drop_left]
    have e3 : byl (t.extract (x.f + m).toNat (x.f + m + x.s.size).toNat) = byl x.s := by
      rw [byl_extract, List.drop_take, e1, show (x.f + m + x.s.size).toNat - (x.f + m).toNat = (byl x.s).length by rw [byl_len]; omega, List.take_left]
    have e3 : t.extract (x.f + m).toNat (x.f + m + x.s.size).toNat = x.s := byl_inj e3
    have e4 : ((byl t).take (x.f + m).toNat).drop (d + m).toNat = ((byl s).take x.f.toNat).drop d.toNat := by
      rw [List.drop_take, h4, List.append_assoc, show (x.f + m).toNat - (d + m).toNat = (((byl s).take x.f.toNat).drop d.toNat).length by rw [hA]; omega, List.take_left]
    have hsz : ((s.extract x.f.toNat x.t.toNat).size : Int) = x.t - x.f := by rw [ByteArray.size_extract]; omega
    obtain ⟨i1, i2, i3, i4, i5⟩ := undo_core s t r x.t (m + (x.s.size - (x.t - x.f))) h (by omega) (by omega) (by omega) (by omega) (by rw [show x.t + (m + ((x.s.size : Int) - (x.t - x.f))) = x.f + m + x.s.size by omega]; exact e2)
    rw [show x.t + (m + ((x.s.size : Int) - (x.t - x.f))) = x.f + m + x.s.size by omega] at i1 i2
    refine ⟨?_, ?_, ?_, ?_, ?_⟩
    · simp only [undoGo, chkGo]
      rw [if_neg (by omega)]
      exact i1
    · simp only [undoGo, restGo]
      rw [e4, i2, byl_extract]
      have q1 : (byl s).drop d.toNat = ((byl s).take x.f.toNat).drop d.toNat ++ (byl s).drop x.f.toNat := by
        conv => lhs; rw [← List.take_append_drop x.f.toNat (byl s)]
        rw [List.drop_append_of_le_length (by rw [List.length_take, byl_len]; omega)]
      have q2 : (byl s).drop x.f.toNat = ((byl s).take x.t.toNat).drop x.f.toNat ++ (byl s).drop x.t.toNat := by
        conv => lhs; rw [← List.take_append_drop x.t.toNat (byl s)]
        rw [List.drop_append_of_le_length (by rw [List.length_take, byl_len]; omega)]
      rw [q1, q2, List.append_assoc]
    · simp only [undoGo]
      rw [e3]
      have w1 : (⟨x.f + m + -m, x.f + m + -m + ((s.extract x.f.toNat x.t.toNat).size : Int), x.s⟩ : Ed) = x := ed_ext ⟨by dsimp only; omega, by dsimp only; omega, rfl⟩
      have w2 : -m + (((s.extract x.f.toNat x.t.toNat).size : Int) - (x.f + m + x.s.size - (x.f + m))) = -(m + ((x.s.size : Int) - (x.t - x.f))) := by omega
      rw [w1, w2, i3]
    · simp [undoGo, i4]
    · intro i hi
      cases i with
      | zero =>
        simp only [undoGo, List.getD_cons_zero]
        exact ⟨e3, trivial, by omega, by omega, by omega⟩
      | succ i =>
        simp only [undoGo, List.getD_cons_succ]
        exact i5 i (by simpa using hi)
theorem undo_facts {s : ByteArray} {L : List Ed} (h : fitE s L = 0) :
    fitE (appT s L) (undoL s L) = 0 ∧ appT (appT s L) (undoL s L) = s ∧ chk (appT s L).size (undoL s L) = 0 ∧ undoL (appT s L) (undoL s L) = L ∧ (undoL s L).length = L.length ∧
    ∀ i, i < L.length → (appT s L).extract ((undoL s L).getD i edR.dflt).f.toNat ((undoL s L).getD i edR.dflt).t.toNat = (L.getD i edR.dflt).s ∧ ((undoL s L).getD i edR.dflt).s = s.extract (L.getD i edR.dflt).f.toNat (L.getD i edR.dflt).t.toNat ∧
      0 ≤ ((undoL s L).getD i edR.dflt).f ∧ ((undoL s L).getD i edR.dflt).f ≤ ((undoL s L).getD i edR.dflt).t ∧ ((undoL s L).getD i edR.dflt).t ≤ (appT s L).size := by
  obtain ⟨z1, z2, N, z3, z4⟩ := fit_ok h
  have hed : edOk s L := (fit_ed z1 z2).1 (by rw [z3]; rfl)
  obtain ⟨r1, _⟩ := rest_ok s L 0 z2 (by omega) (by omega)
  have eT : appT s L = backF s L := by rw [appT, if_pos h]
  have eU : undoL s L = undoGo s L 0 := by rw [undoL, if_pos h]
  obtain ⟨c1, c2, c3, c4, c5⟩ := undo_core s (backF s L) L 0 0 z2 (by omega) (by omega) (by omega) (by omega) r1
  rw [eT, eU]
  have ht : ((backF s L).size : Int) ≤ 65536 := by have := hed.2; omega
  obtain ⟨r2, _⟩ := rest_ok (backF s L) (undoGo s L 0) 0 c1 (by omega) (by omega)
  have hb : backF (backF s L) (undoGo s L 0) = s := byl_inj (by
    have : restGo (backF s L) (undoGo s L 0) 0 = (byl s).drop 0 := c2
    rw [this] at r2
    simpa using r2)
  have htot := back_total (backF s L) (undoGo s L 0) 0 c1 (by omega) (by omega)
  rw [hb] at htot
  have hf : fitE (backF s L) (undoGo s L 0) = 0 := by
    have h4 := (fit_ed (s := backF s L) (L := undoGo s L 0) (by omega) c1).2 ⟨sum_of _ _ (by omega), by rw [hb]; omega⟩
    rw [fitE, if_neg (by omega), if_pos (by rw [chk_eq (by omega) (by omega)]; exact c1), if_pos h4]
  refine ⟨hf, ?_, ?_, ?_, c4, c5⟩
  · rw [appT, if_pos hf, hb]
  · rw [chk_eq (by omega) (by omega)]; exact c1
  · rw [undoL, if_pos hf]; exact c3
end Go.Ex
