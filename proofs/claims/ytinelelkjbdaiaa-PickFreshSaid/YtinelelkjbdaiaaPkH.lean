/-
  Pick: ends of parts, in plain maths.
-/
import Derived.Test.YtinelelkjbdaiaaPkG
namespace Go.Ex
open Go.Proofs
set_option linter.unusedVariables false
set_option linter.unusedSimpArgs false

/-- the end of so many parts -/
def endG (len : Int) : List Int → Int → Int → Int
  | [], need, i => if 0 < need then -1 else i
  | k :: r, need, i => if 0 < need then (if k < 0 ∨ len < k then -1 else endG len r (need - 1 + k) (i + 1)) else i
/-- the roots from here on -/
def sufS : List Int → Int → Option (List Int)
  | [], i => some []
  | k :: r, i => match sufS r (i + 1) with
    | none => none
    | some st => if k < 0 ∨ (st.length : Int) < k then none else some (i :: st.drop k.toNat)
theorem sufS_len : ∀ (ks : List Int) (i : Int) (st : List Int), sufS ks i = some st → st.length ≤ ks.length
  | [], i, st, h => by cases h; exact Nat.le_refl _
  | k :: r, i, st, h => by
    simp only [sufS] at h
    split at h
    · cases h
    · rename_i st' hs
      split at h
      · cases h
      · cases h
        have := sufS_len r (i + 1) st' hs
        simp only [List.length_cons, List.length_drop]; omega
theorem endG_of (len : Int) : ∀ (ks : List Int) (i : Int) (st : List Int) (m : Int), sufS ks i = some st → (ks.length : Int) ≤ len → i + ks.length = len → 0 ≤ m → m ≤ st.length →
    endG len ks m i = if m < st.length then getI 0 st m else len
  | [], i, st, m, h, hl, hi, h0, h1 => by
    cases h
    simp only [List.length_nil] at *
    have : m = 0 := by omega
    subst this
    simp [endG]; omega
  | k :: r, i, st, m, h, hl, hi, h0, h1 => by
    simp only [sufS] at h
    split at h
    · cases h
    · rename_i st' hs
      split at h
      · cases h
      · rename_i hk
        cases h
        have hlen := sufS_len r (i + 1) st' hs
        simp only [List.length_cons, List.length_drop] at *
        simp only [endG]
        by_cases hm : 0 < m
        · rw [if_pos hm, if_neg (by omega), endG_of len r (i + 1) st' (m - 1 + k) hs (by omega) (by omega) (by omega) (by omega)]
          by_cases hc : m - 1 + k < st'.length
          · rw [if_pos hc, if_pos (by omega)]
            simp only [getI, List.getD]
            rw [show m.toNat = (m - 1).toNat + 1 by omega, List.getElem?_cons_succ, List.getElem?_drop, show k.toNat + (m - 1).toNat = (m - 1 + k).toNat by omega]
          · rw [if_neg hc, if_neg (by omega)]
        · have : m = 0 := by omega
          subst this
          rw [if_neg (by omega), if_pos (by omega)]
          rfl
theorem sufS_of (len : Int) : ∀ (ks : List Int) (i m : Int), i + ks.length = len → 0 ≤ i → 0 ≤ m → endG len ks m i = len → ∃ st, sufS ks i = some st ∧ (st.length : Int) = m
  | [], i, m, hi, hi0, h0, h => by
    simp only [List.length_nil] at hi
    simp only [endG] at h
    split at h
    · omega
    · exact ⟨[], rfl, by simp; omega⟩
  | k :: r, i, m, hi, hi0, h0, h => by
    simp only [List.length_cons] at hi
    simp only [endG] at h
    split at h
    · split at h
      · omega
      · obtain ⟨st, h1, h2⟩ := sufS_of len r (i + 1) (m - 1 + k) (by omega) (by omega) (by omega) h
        refine ⟨i :: st.drop k.toNat, ?_, ?_⟩
        · simp only [sufS, h1]
          rw [if_neg (by omega)]
        · simp only [List.length_cons, List.length_drop]; omega
    · omega
end Go.Ex
