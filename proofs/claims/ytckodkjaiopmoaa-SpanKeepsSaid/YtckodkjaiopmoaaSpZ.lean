/-
  Span: what is left stays, in order.
-/
import Derived.Test.YtckodkjaiopmoaaSpX
namespace Go.Ex
open Go.Proofs
set_option linter.unusedVariables false

/-- how many bytes are left from d up to p -/
def cntGo : List Ed → Int → Int → Int
  | [], d, p => p - d
  | x :: r, d, p => if p < x.f then p - d else if p < x.t then x.f - d else (x.f - d) + cntGo r x.t p
/-- how much is put ahead of p -/
def putGo : List Ed → Int → Int
  | [], p => 0
  | x :: r, p => if x.t ≤ p then x.s.size + putGo r p else 0
theorem cnt_zero (n : Int) : ∀ (L : List Ed) (d : Int), chkGo n L d = 0 → cntGo L d d = 0
  | [], d, _ => by simp only [cntGo]; omega
  | x :: r, d, h => by
    simp only [chkGo] at h
    split at h
    · omega
    have ih := cnt_zero n r x.t h
    simp only [cntGo]
    split
    · omega
    split
    · omega
    · rw [show d = x.t by omega, ih]; omega
theorem mv_cnt (n p : Int) : ∀ (L : List Ed) (d t to : Int), chkGo n L d = 0 → d ≤ p → mvGo p L t = some to → to = cntGo L d p + (d + (t - p)) + putGo L p
  | [], d, t, to, _, h, hm => by
    simp only [mvGo, Option.some.injEq] at hm
    simp only [cntGo, putGo]; omega
  | x :: r, d, t, to, hc, h, hm => by
    simp only [chkGo] at hc
    split at hc
    · omega
    simp only [mvGo] at hm
    simp only [cntGo, putGo]
    split at hm
    · cases hm
    split at hm
    · cases hm
      rw [if_pos (by omega), if_neg (by omega)]; omega
    · have ih := mv_cnt n p r x.t _ to hc (by omega) hm
      rw [if_neg (by omega), if_neg (by omega), if_pos (by omega)]; omega
theorem cnt_succ (n p : Int) : ∀ (L : List Ed) (d t : Int), chkGo n L d = 0 → d ≤ p → (mvGo p L t = none ∧ cntGo L d (p + 1) = cntGo L d p) ∨ ((mvGo p L t).isSome = true ∧ cntGo L d (p + 1) = cntGo L d p + 1)
  | [], d, t, _, h => .inr ⟨rfl, by simp only [cntGo]; omega⟩
  | x :: r, d, t, hc, h => by
    simp only [chkGo] at hc
    split at hc
    · omega
    simp only [cntGo, mvGo]
    by_cases h1 : p < x.f
    · right
      rw [if_neg (show ¬ (x.f ≤ p ∧ p < x.t) by omega), if_pos (show p < x.t by omega), if_pos h1]
      refine ⟨rfl, ?_⟩
      by_cases h2 : p + 1 < x.f
      · rw [if_pos h2]; omega
      · rw [if_neg h2]
        by_cases h3 : p + 1 < x.t
        · rw [if_pos h3]; omega
        · rw [if_neg h3, show p + 1 = x.t by omega, cnt_zero n r x.t hc]; omega
    · by_cases h2 : p < x.t
      · left
        rw [if_pos (show x.f ≤ p ∧ p < x.t from ⟨by omega, h2⟩), if_neg h1, if_pos h2, if_neg (show ¬ p + 1 < x.f by omega)]
        refine ⟨rfl, ?_⟩
        by_cases h3 : p + 1 < x.t
        · rw [if_pos h3]
        · rw [if_neg h3, show p + 1 = x.t by omega, cnt_zero n r x.t hc]; omega
      · rw [if_neg (show ¬ (x.f ≤ p ∧ p < x.t) by omega), if_neg h2, if_neg h1, if_neg h2, if_neg (show ¬ p + 1 < x.f by omega), if_neg (show ¬ p + 1 < x.t by omega)]
        rcases cnt_succ n p r x.t (t + (x.s.size - (x.t - x.f))) hc (by omega) with ⟨h3, h4⟩ | ⟨h3, h4⟩
        · exact .inl ⟨h3, by omega⟩
        · exact .inr ⟨h3, by omega⟩
theorem put_mono (p : Int) : ∀ (L : List Ed), 0 ≤ putGo L p ∧ putGo L p ≤ putGo L (p + 1)
  | [] => by simp [putGo]
  | x :: r => by
    have ih := put_mono p r
    have ih2 := put_mono (p + 1) r
    simp only [putGo]
    split
    · rw [if_pos (by omega)]; omega
    · split <;> omega
theorem put_all (n : Int) : ∀ (L : List Ed) (d : Int), chkGo n L d = 0 → putGo L n = total L
  | [], d, _ => rfl
  | x :: r, d, h => by
    simp only [chkGo] at h
    split at h
    · omega
    have ih := put_all n r x.t h
    simp only [putGo, total]
    rw [if_pos (by omega)]; omega
theorem mv_end (n : Int) : ∀ (L : List Ed) (d t : Int), chkGo n L d = 0 → mvGo n L t = some (t + (total L - 0) - ((L.map fun x => x.t - x.f).sum))
  | [], d, t, _ => by simp [mvGo, total]
  | x :: r, d, t, h => by
    simp only [chkGo] at h
    split at h
    · omega
    have ih := mv_end n r x.t (t + (x.s.size - (x.t - x.f))) h
    simp only [mvGo, total, List.map_cons, List.sum_cons]
    rw [if_neg (by omega), if_neg (by omega), ih]
    congr 1
    omega
theorem back_end (s : ByteArray) : ∀ (L : List Ed) (d : Int), chkGo s.size L d = 0 → 0 ≤ d → d ≤ s.size → ((backF s L).size : Int) = s.size + (total L - 0) - ((L.map fun x => x.t - x.f).sum)
  | [], d, _, _, _ => by simp [backF, total]
  | x :: r, d, h, h0, h1 => by
    simp only [chkGo] at h
    split at h
    · omega
    have ih := back_end s r x.t h (by omega) (by omega)
    have := back_size s x r h (by omega)
    simp only [total, List.map_cons, List.sum_cons]
    omega
theorem getI_drop (l : List Int) (a b : Int) (h0 : 0 ≤ a) (h1 : a ≤ b) : getI 0 l b = getI 0 (l.drop a.toNat) (b - a) := by
  simp only [getI, List.getD, List.getElem?_drop]
  congr 2
  omega
theorem getI_left (l r : List Int) (b : Int) (h0 : 0 ≤ b) (h1 : b < l.length) : getI 0 (l ++ r) b = getI 0 l b := by
  simp only [getI, List.getD]
  rw [List.getElem?_append_left (by omega)]
theorem getI_take (l : List Int) (n : Nat) (b : Int) (h0 : 0 ≤ b) (h1 : b < n) : getI 0 (l.take n) b = getI 0 l b := by
  simp only [getI, List.getD]
  rw [List.getElem?_take_of_lt (by omega)]
theorem mv_byte (s t : ByteArray) (p : Int) : ∀ (L : List Ed) (d m to : Int), chkGo s.size L d = 0 → 0 ≤ d → d ≤ p → p < s.size → 0 ≤ d + m → (byl t).drop (d + m).toNat = restGo s L d → mvGo p L (p + m) = some to →
    d + m ≤ to ∧ to < t.size ∧ byteI t to = byteI s p
  | [], d, m, to, _, h0, h1, h2, h3, h4, hm => by
    simp only [mvGo, Option.some.injEq] at hm
    subst hm
    simp only [restGo] at h4
    have hl := congrArg List.length h4
    simp only [List.length_drop, byl_len] at hl
    refine ⟨by omega, by omega, ?_⟩
    rw [byteI_eq, byteI_eq, getI_drop _ (d + m) _ h3 (by omega), h4, getI_drop (byl s) d p h0 h1]
    congr 1; omega
  | x :: r, d, m, to, h, h0, h1, h2, h3, h4, hm => by
    simp only [chkGo] at h
    split at h
    · omega
    simp only [restGo] at h4
    have hA : (((byl s).take x.f.toNat).drop d.toNat).length = (x.f - d).toNat := by rw [List.length_drop, List.length_take, byl_len]; omega
    have hl := congrArg List.length h4
    simp only [List.length_append, List.length_drop, List.length_take, byl_len] at hl
    simp only [mvGo] at hm
    split at hm
    · cases hm
    split at hm
    · cases hm
      refine ⟨by omega, by omega, ?_⟩
      rw [byteI_eq, byteI_eq, getI_drop _ (d + m) _ h3 (by omega), h4, List.append_assoc, getI_left _ _ _ (by omega) (by rw [hA]; omega), getI_drop (byl s) d p h0 h1, List.drop_take, getI_take _ _ _ (by omega) (by omega)]
      congr 1; omega
    · have e1 : (byl t).drop (x.f + m).toNat = byl x.s ++ restGo s r x.t := by
        rw [← drop_sum (byl t) (d + m) (x.f + m) h3 (by omega), h4, List.append_assoc, show (x.f + m - (d + m)).toNat = (x.f - d).toNat by omega, ← hA, List.drop_left]
      have e2 : (byl t).drop (x.f + m + x.s.size).toNat = restGo s r x.t := by
        rw [← drop_sum (byl t) (x.f + m) (x.f + m + x.s.size) (by omega) (by omega), e1, show (x.f + m + x.s.size - (x.f + m)).toNat = (byl x.s).length by rw [byl_len]; omega, List.drop_left]
      have ih := mv_byte s t p r x.t (m + (x.s.size - (x.t - x.f))) to h (by omega) (by omega) h2 (by omega) (by rw [show x.t + (m + ((x.s.size : Int) - (x.t - x.f))) = x.f + m + x.s.size by omega]; exact e2) (by rw [← hm]; congr 1; omega)
      exact ⟨by omega, ih.2.1, ih.2.2⟩
/-- what the law asks of a place -/
theorem keep_facts {s : ByteArray} {L : List Ed} (h : fitE s L = 0) :
    (∀ p : Int, 0 ≤ p → p < s.size → (∀ to, mvF s.size L p = some to → to = cntGo L 0 p + putGo L p ∧ 0 ≤ to ∧ to < (appT s L).size ∧ byteI (appT s L) to = byteI s p) ∧
      ((mvF s.size L p = none ∧ cntGo L 0 (p + 1) = cntGo L 0 p) ∨ ((mvF s.size L p).isSome = true ∧ cntGo L 0 (p + 1) = cntGo L 0 p + 1))) ∧
    (mvF s.size L s.size = some ((appT s L).size : Int)) ∧ cntGo L 0 s.size + total L = (appT s L).size ∧ cntGo L 0 0 = 0 ∧ s.size ≤ 65536 ∧ (appT s L).size ≤ 65536 ∧ sumGo L 0 := by
  obtain ⟨z1, z2, N, z3, z4⟩ := fit_ok h
  have hed : edOk s L := (fit_ed z1 z2).1 (by rw [z3]; rfl)
  have eT : appT s L = backF s L := by rw [appT, if_pos h]
  obtain ⟨r1, _⟩ := rest_ok s L 0 z2 (by omega) (by omega)
  have hck : chk s.size L = 0 := by rw [chk_eq (by omega) (by omega)]; exact z2
  have hmv : ∀ p : Int, 0 ≤ p → p ≤ s.size → mvF s.size L p = mvGo p L p := fun p h0 h1 => by rw [mvF, if_neg (by omega)]
  have he := mv_end s.size L 0 s.size z2
  rw [← back_end s L 0 z2 (by omega) (by omega)] at he
  have hc := mv_cnt s.size s.size L 0 s.size _ z2 (by omega) he
  rw [put_all _ L 0 z2] at hc
  rw [eT]
  refine ⟨fun p h0 h1 => ⟨fun to ht => ?_, ?_⟩, ?_, by omega, cnt_zero s.size L 0 z2, z1, by have := hed.2; omega, ?_⟩
  · rw [hmv p h0 (by omega)] at ht
    have c1 := mv_cnt s.size p L 0 p to z2 (by omega) ht
    obtain ⟨c2, c3, c4⟩ := mv_byte s (backF s L) p L 0 0 to z2 (by omega) (by omega) (by omega) (by omega) r1 (by simpa using ht)
    exact ⟨by omega, by omega, c3, c4⟩
  · rw [hmv p h0 (by omega)]
    exact cnt_succ s.size p L 0 p z2 (by omega)
  · rw [hmv _ (by omega) (by omega)]; exact he
  · have hs2 := sum_total L _ hed.1 (by omega)
    exact sum_of L 0 (by omega)
end Go.Ex
