/-
  Pick: heaps, in plain maths.
-/
import Derived.Test.YtinelelkjbdaiaaPkC
namespace Go.Ex
open Go.Proofs
set_option linter.unusedVariables false
set_option linter.unusedSimpArgs false

theorem lt_asymm {x y : It} (h : Lt x y) : ¬ Lt y x := by unfold Lt at *; omega
theorem le_trans' {x y z : It} (h1 : ¬ Lt y x) (h2 : ¬ Lt z y) : ¬ Lt z x := by unfold Lt at *; omega
theorem lt_le {x y z : It} (h1 : Lt x y) (h2 : ¬ Lt z y) : ¬ Lt z x := by unfold Lt at *; omega
theorem swap_len (L : List It) (i j : Int) : (swap L i j).length = L.length := by simp [swap]
theorem itAt_get (L : List It) (k : Int) (h0 : 0 ≤ k) (h1 : k < L.length) : itAt L k = L[k.toNat]'(by omega) := by
  have : k.toNat < L.length := by omega
  simp [itAt, getI, List.getD, this]
theorem itAt_swap (L : List It) (i j k : Int) (hi : 0 ≤ i ∧ i < L.length) (hj : 0 ≤ j ∧ j < L.length) (hk : 0 ≤ k ∧ k < L.length) :
    itAt (swap L i j) k = if k = j then itAt L i else if k = i then itAt L j else itAt L k := by
  have h1 : k.toNat < L.length := by omega
  simp only [itAt, getI, swap, List.getD]
  by_cases e1 : k = j
  · subst e1
    rw [List.getElem?_set_self (by simpa using h1), if_pos rfl]
    rfl
  · rw [if_neg e1, List.getElem?_set_ne (by omega)]
    by_cases e2 : k = i
    · subst e2
      rw [List.getElem?_set_self h1, if_pos rfl]
      rfl
    · rw [if_neg e2, List.getElem?_set_ne (by omega)]
theorem swap_perm (L : List It) (i j : Int) (hi : 0 ≤ i ∧ i < L.length) (hj : 0 ≤ j ∧ j < L.length) : (swap L i j).Perm L := by
  have h1 : i.toNat < L.length := by omega
  have h2 : j.toNat < L.length := by omega
  have := @List.set_set_perm _ L _ _ h1 h2
  rw [swap, itAt_get L i hi.1 hi.2, itAt_get L j hj.1 hj.2]
  exact this
/-- a heap as far as n -/
def HeapTo (L : List It) (n : Int) : Prop := ∀ k : Int, 0 < k → k < n → ¬ Lt (itAt L k) (itAt L ((k - 1) / 2))
structure UpInv (L : List It) (j : Int) : Prop where
  a : ∀ k : Int, 0 < k → k < L.length → k ≠ j → ¬ Lt (itAt L k) (itAt L ((k - 1) / 2))
  b : 0 < j → ∀ k : Int, 0 < k → k < L.length → (k - 1) / 2 = j → ¬ Lt (itAt L k) (itAt L ((j - 1) / 2))
theorem UpInv.step {L : List It} {j : Int} (h : UpInv L j) (h0 : 0 < j) (h1 : j < L.length) (hl : Lt (itAt L j) (itAt L ((j - 1) / 2))) : UpInv (swap L ((j - 1) / 2) j) ((j - 1) / 2) := by
  obtain ⟨i, hi⟩ : ∃ i, i = (j - 1) / 2 := ⟨_, rfl⟩
  rw [← hi] at hl ⊢
  have hi' : 0 ≤ i ∧ i < L.length := by omega
  have hj' : 0 ≤ j ∧ j < L.length := by omega
  refine ⟨fun k k0 k1 kn => ?_, fun i0 k k0 k1 kp => ?_⟩
  · rw [swap_len] at k1
    rw [itAt_swap L i j k hi' hj' ⟨by omega, k1⟩, itAt_swap L i j ((k - 1) / 2) hi' hj' ⟨by omega, by omega⟩, if_neg kn]
    by_cases e1 : k = j
    · subst e1
      rw [if_pos rfl, ← hi, if_neg (by omega), if_pos rfl]
      exact lt_asymm hl
    · rw [if_neg e1]
      have ha := h.a k k0 k1 e1
      by_cases e2 : (k - 1) / 2 = j
      · rw [if_pos e2]
        have := h.b h0 k k0 k1 e2
        rwa [← hi] at this
      · rw [if_neg e2]
        by_cases e3 : (k - 1) / 2 = i
        · rw [if_pos e3]
          rw [e3] at ha
          exact lt_le hl ha
        · rw [if_neg e3]; exact ha
  · rw [swap_len] at k1
    rw [itAt_swap L i j k hi' hj' ⟨by omega, k1⟩, itAt_swap L i j ((i - 1) / 2) hi' hj' ⟨by omega, by omega⟩, if_neg (show (i - 1) / 2 ≠ j by omega), if_neg (show (i - 1) / 2 ≠ i by omega)]
    have hii := h.a i i0 hi'.2 (by omega)
    by_cases e1 : k = j
    · rw [if_pos e1]; exact hii
    · rw [if_neg e1, if_neg (by omega)]
      have := h.a k k0 k1 e1
      rw [kp] at this
      exact le_trans' hii this
theorem UpInv.done {L : List It} {j : Int} (h : UpInv L j) (hl : ¬ (0 < j ∧ Lt (itAt L j) (itAt L ((j - 1) / 2)))) : HeapTo L L.length := by
  intro k k0 k1
  by_cases e : k = j
  · subst e; exact fun h' => hl ⟨k0, h'⟩
  · exact h.a k k0 k1 e
structure DnInv (L : List It) (n i : Int) : Prop where
  a : ∀ k : Int, 0 < k → k < n → (k - 1) / 2 ≠ i → ¬ Lt (itAt L k) (itAt L ((k - 1) / 2))
  b : 0 < i → ∀ k : Int, 0 < k → k < n → (k - 1) / 2 = i → ¬ Lt (itAt L k) (itAt L ((i - 1) / 2))
theorem DnInv.step {L : List It} {n i j : Int} (h : DnInv L n i) (hn : n ≤ L.length) (h0 : 0 ≤ i) (h1 : j < n) (hp : 0 < j ∧ (j - 1) / 2 = i) (hl : Lt (itAt L j) (itAt L i))
    (hm : ∀ k, 0 < k → k < n → (k - 1) / 2 = i → ¬ Lt (itAt L k) (itAt L j)) : DnInv (swap L i j) n j := by
  have hi' : 0 ≤ i ∧ i < L.length := by omega
  have hj' : 0 ≤ j ∧ j < L.length := by omega
  refine ⟨fun k k0 k1 kn => ?_, fun j0 k k0 k1 kp => ?_⟩
  · rw [itAt_swap L i j k hi' hj' ⟨by omega, by omega⟩, itAt_swap L i j ((k - 1) / 2) hi' hj' ⟨by omega, by omega⟩, if_neg kn]
    by_cases e1 : k = j
    · subst e1
      rw [if_pos rfl, if_pos hp.2]
      exact lt_asymm hl
    · rw [if_neg e1]
      by_cases e2 : k = i
      · subst e2
        rw [if_pos rfl, if_neg (by omega)]
        exact h.b k0 j hp.1 h1 hp.2
      · rw [if_neg e2]
        by_cases e3 : (k - 1) / 2 = i
        · rw [if_pos e3]; exact hm k k0 k1 e3
        · rw [if_neg e3]; exact h.a k k0 k1 e3
  · rw [itAt_swap L i j k hi' hj' ⟨by omega, by omega⟩, itAt_swap L i j ((j - 1) / 2) hi' hj' ⟨by omega, by omega⟩, hp.2, if_neg (show i ≠ j by omega), if_pos rfl, if_neg (by omega), if_neg (by omega)]
    have := h.a k k0 k1 (by omega)
    rwa [kp] at this
theorem DnInv.done {L : List It} {n i : Int} (h : DnInv L n i) (hm : ∀ k, 0 < k → k < n → (k - 1) / 2 = i → ¬ Lt (itAt L k) (itAt L i)) : HeapTo L n := by
  intro k k0 k1
  by_cases e : (k - 1) / 2 = i
  · rw [e]; exact hm k k0 k1 e
  · exact h.a k k0 k1 e
theorem HeapTo.root {L : List It} {n : Int} (h : HeapTo L n) : ∀ (m : Nat) (k : Int), 0 ≤ k → k < n → k.toNat ≤ m → ¬ Lt (itAt L k) (itAt L 0)
  | 0, k, h0, h1, hm => by
    have : k = 0 := by omega
    subst this
    unfold Lt; omega
  | m + 1, k, h0, h1, hm => by
    by_cases e : k = 0
    · subst e; unfold Lt; omega
    · exact le_trans' (HeapTo.root h m ((k - 1) / 2) (by omega) (by omega) (by omega)) (h k (by omega) h1)
end Go.Ex
