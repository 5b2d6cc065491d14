/-
  Lines: words; where lines begin.
-/
import Derived.Test.YtfaiabpmaklgmaaExK
import Derived.Test.YtfaiabpmaklgmaaEnv
import Derived.Lib.Bytealg
namespace Go.Ex
open Go.Proofs
set_option linter.unusedVariables false
set_option linter.unusedSimpArgs false
attribute [local irreducible] CallsH

def rep : Nat → Option RepS
  | 3 => some ⟨intR .i64⟩
  | 5 => some ⟨intR .u8⟩
  | _ => none
theorem prop_true {p : Prop} (h : p) : denC (.prop p) = .bool true := by simp [denC, h]
theorem tup_eq {a b c d : Value} (h1 : a = c) (h2 : b = d) : Value.tuple #[a, b] = .tuple #[c, d] := by rw [h1, h2]
theorem tup3_eq {a b c a' b' c' : Value} (h1 : a = a') (h2 : b = b') (h3 : c = c') : Value.tuple #[a, b, c] = .tuple #[a', b', c'] := by rw [h1, h2, h3]
/-- the beginnings of lines behind one that began at i or ahead of it -/
def stGo : List Int → Int → List Int
  | [], _ => []
  | c :: r, i => if c = 10 then (i + 1) :: stGo r (i + 1) else stGo r (i + 1)
def startsF (s : ByteArray) : List Int := 0 :: stGo (byl s) 0
theorem byl_size (s : ByteArray) : (byl s).length = s.size := by simp [byl]
theorem byteI_eq (s : ByteArray) (i : Int) : byteI s i = getI 0 (byl s) i := by
  simp only [byteI, getI, byl, List.getD, List.getElem?_map]
  cases s.data.toList[i.toNat]? <;> rfl
theorem stGo_len : ∀ (B : List Int) (i : Int), (stGo B i).length ≤ B.length
  | [], i => Nat.le_refl _
  | c :: r, i => by
    simp only [stGo, List.length_cons]
    have := stGo_len r (i + 1)
    split
    · rw [List.length_cons]; omega
    · omega
theorem starts_len (s : ByteArray) : (startsF s).length ≤ s.size + 1 := by
  have := stGo_len (byl s) 0
  rw [byl_size] at this
  simp only [startsF, List.length_cons]; omega
theorem seg (B : List Int) : ∀ (i : Int) (k : Nat), k < (i :: stGo B i).length →
    i ≤ getI 0 (i :: stGo B i) k ∧ getI 0 (i :: stGo B i) k ≤ (if k + 1 = (i :: stGo B i).length then i + B.length else getI 0 (i :: stGo B i) (k + 1) - 1) ∧
    (if k + 1 = (i :: stGo B i).length then i + B.length else getI 0 (i :: stGo B i) (k + 1) - 1) ≤ i + B.length ∧
    (∀ j, getI 0 (i :: stGo B i) k ≤ j → j < (if k + 1 = (i :: stGo B i).length then i + B.length else getI 0 (i :: stGo B i) (k + 1) - 1) → getI 0 B (j - i) ≠ 10) ∧
    (k + 1 < (i :: stGo B i).length → getI 0 (i :: stGo B i) (k + 1) - 1 < i + B.length ∧ getI 0 B (getI 0 (i :: stGo B i) (k + 1) - 1 - i) = 10) := by
  have g0 : ∀ (x : Int) (l : List Int), getI 0 (x :: l) 0 = x := fun x l => rfl
  have gs : ∀ (x : Int) (l : List Int) (k : Nat), getI 0 (x :: l) (((k + 1 : Nat) : Int)) = getI 0 l k := fun x l k => by
    simp only [getI, List.getD]
    rw [show ((k + 1 : Nat) : Int).toNat = k + 1 by omega, show ((k : Nat) : Int).toNat = k by omega]
    rfl
  induction B with
  | nil =>
    intro i k hk
    have hk0 : k = 0 := by simp [stGo] at hk; omega
    subst hk0
    simp only [stGo, List.length_singleton, if_true, List.length_nil]
    rw [show ((0 : Nat) : Int) = 0 from rfl, g0]
    exact ⟨by omega, by omega, by omega, fun j h1 h2 => by omega, fun h => by omega⟩
  | cons c r ih =>
    intro i k hk
    have gB : ∀ j : Int, 0 < j → getI 0 (c :: r) j = getI 0 r (j - 1) := fun j hj => by
      have := gs c r (j.toNat - 1)
      rw [show (((j.toNat - 1 + 1 : Nat) : Nat) : Int) = j by omega, show ((j.toNat - 1 : Nat) : Int) = j - 1 by omega] at this
      exact this
    by_cases hc : c = 10
    · have e : stGo (c :: r) i = (i + 1) :: stGo r (i + 1) := by simp only [stGo]; rw [if_pos hc]
      rw [e] at hk ⊢
      cases k with
      | zero =>
        have := ih (i + 1) 0 (by simp)
        have h1 : ¬ (0 + 1 = (i :: (i + 1) :: stGo r (i + 1)).length) := by simp
        rw [if_neg h1]
        rw [show ((0 : Nat) : Int) + 1 = ((0 + 1 : Nat) : Int) from rfl, gs]
        rw [show ((0 : Nat) : Int) = 0 from rfl, g0, g0]
        simp only [List.length_cons]
        refine ⟨by omega, by omega, by omega, fun j h1 h2 => by omega, fun _ => ⟨by omega, ?_⟩⟩
        rw [show i + 1 - 1 - i = 0 by omega, g0]; exact hc
      | succ k =>
        obtain ⟨h1, h2, h3, h4, h5⟩ := ih (i + 1) k (by simpa using hk)
        have hl : ((k + 1) + 1 = (i :: (i + 1) :: stGo r (i + 1)).length) ↔ (k + 1 = ((i + 1) :: stGo r (i + 1)).length) := by simp only [List.length_cons]; omega
        rw [gs, show (((k + 1 : Nat) : Int) + 1) = ((k + 1 + 1 : Nat) : Int) by omega, gs]
        rw [show ((k + 1 : Nat) : Int) = (k : Int) + 1 by omega] at *
        simp only [hl]
        have hL : (i : Int) + (c :: r).length = i + 1 + r.length := by simp only [List.length_cons]; omega
        rw [hL]
        refine ⟨by omega, h2, h3, fun j h6 h7 => ?_, fun h6 => ?_⟩
        · rw [gB (j - i) (by omega), show j - i - 1 = j - (i + 1) by omega]
          exact h4 j h6 h7
        · obtain ⟨h8, h9⟩ := h5 (by simp only [List.length_cons] at h6 ⊢; omega)
          refine ⟨h8, ?_⟩
          have h10 := ih (i + 1) (k + 1) (by simp only [List.length_cons] at h6 ⊢; omega)
          have h11 := h10.1
          rw [show ((k + 1 : Nat) : Int) = (k : Int) + 1 by omega] at h11
          rw [gB _ (by
            by_cases hz : getI 0 ((i + 1) :: stGo r (i + 1)) ((k : Int) + 1) - 1 - i = 0
            · exfalso
              have hlast : ¬ (k + 1 = ((i + 1) :: stGo r (i + 1)).length) := by simp only [List.length_cons] at h6 ⊢; omega
              rw [if_neg hlast] at h2
              omega
            · omega), ← h9]
          congr 1; omega
    · have e : stGo (c :: r) i = stGo r (i + 1) := by simp only [stGo]; rw [if_neg hc]
      rw [e] at hk ⊢
      have hl : (i :: stGo r (i + 1)).length = ((i + 1) :: stGo r (i + 1)).length := rfl
      obtain ⟨h1, h2, h3, h4, h5⟩ := ih (i + 1) k (by simpa using hk)
      have hn : getI 0 (i :: stGo r (i + 1)) ((k : Int) + 1) = getI 0 ((i + 1) :: stGo r (i + 1)) ((k : Int) + 1) := by
        have a := gs i (stGo r (i + 1)) k
        have b := gs (i + 1) (stGo r (i + 1)) k
        rw [show ((k + 1 : Nat) : Int) = (k : Int) + 1 by omega] at a b
        rw [a, b]
      have hL : (i : Int) + (c :: r).length = i + 1 + r.length := by simp only [List.length_cons]; omega
      rw [hl, hn, hL]
      have hk2 : getI 0 (i :: stGo r (i + 1)) k = if k = 0 then i else getI 0 ((i + 1) :: stGo r (i + 1)) k := by
        cases k with
        | zero => rfl
        | succ k => rw [if_neg (by omega), gs, gs]
      have hfirst : k = 0 → getI 0 ((i + 1) :: stGo r (i + 1)) k = i + 1 := fun h => by subst h; rfl
      refine ⟨by rw [hk2]; split <;> omega, ?_, h3, fun j h6 h7 => ?_, fun h6 => ?_⟩
      · rw [hk2]
        by_cases hk0 : k = 0
        · rw [if_pos hk0]; have := hfirst hk0; omega
        · rw [if_neg hk0]; exact h2
      · by_cases hj : j = i
        · subst hj
          rw [show j - j = 0 by omega, g0]; exact hc
        · have h8 : getI 0 ((i + 1) :: stGo r (i + 1)) k ≤ j := by
            rw [hk2] at h6
            by_cases hk0 : k = 0
            · rw [if_pos hk0] at h6; rw [hfirst hk0]; omega
            · rw [if_neg hk0] at h6; exact h6
          rw [gB (j - i) (by omega), show j - i - 1 = j - (i + 1) by omega]
          exact h4 j h8 h7
      · obtain ⟨h8, h9⟩ := h5 h6
        refine ⟨h8, ?_⟩
        have hlast : ¬ (k + 1 = ((i + 1) :: stGo r (i + 1)).length) := by rw [← hl]; omega
        rw [if_neg hlast] at h2
        rw [gB _ (by omega), ← h9]
        congr 1; omega
end Go.Ex
