/-
  Tree: a tree has ends, nodes above, a depth; the reference's other functions.
-/
import Derived.Test.YtggbpdhhfgmocaaTrF
namespace Go.Ex
open Go.Proofs
set_option linter.unusedVariables false

def mkI (N : Nat) (g : Int → Int) : List Int := (List.range N).map fun j => g (j : Nat)
theorem mkI_get {N : Nat} {g : Int → Int} (j : Int) (h0 : 0 ≤ j) (h1 : j < N) : getI 0 (mkI N g) j = g j := by
  have : j.toNat < N := by omega
  simp only [getI, List.getD, mkI, List.getElem?_map, List.getElem?_range this, Option.map_some, Option.getD_some]
  congr 1; omega
/-- the last node, below k, that reaches beyond i -/
def upGo (E : List Int) (i : Int) : Nat → Int
  | 0 => -1
  | k + 1 => if i < getI 0 E k then k else upGo E i k
theorem upGo_spec (E : List Int) (i : Int) : ∀ n : Nat, (upGo E i n = -1 ∧ ∀ k : Int, 0 ≤ k → k < n → getI 0 E k ≤ i) ∨ (0 ≤ upGo E i n ∧ upGo E i n < n ∧ i < getI 0 E (upGo E i n) ∧ ∀ k : Int, upGo E i n < k → k < n → getI 0 E k ≤ i)
  | 0 => .inl ⟨rfl, fun k h1 h2 => by omega⟩
  | n + 1 => by
    simp only [upGo]
    split
    · rename_i h
      exact .inr ⟨by omega, by omega, h, fun k h1 h2 => by omega⟩
    · rename_i h
      rcases upGo_spec E i n with ⟨h1, h2⟩ | ⟨h1, h2, h3, h4⟩
      · refine .inl ⟨h1, fun k h3 h4 => ?_⟩
        by_cases hk : k = n
        · subst hk; omega
        · exact h2 k h3 (by omega)
      · refine .inr ⟨h1, by omega, h3, fun k h5 h6 => ?_⟩
        by_cases hk : k = n
        · subst hk; omega
        · exact h4 k h5 (by omega)
def deepGo (U : List Int) : Nat → Int → Int
  | 0, _ => 1
  | f + 1, j => if getI 0 U j < 0 then 1 else deepGo U f (getI 0 U j) + 1
theorem deepGo_fuel {L : List Nd} {E U : List Int} (hU : UpsOk L E U) : ∀ (f f' : Nat) (j : Int), 0 ≤ j → j < L.length → j ≤ f → j ≤ f' → deepGo U f j = deepGo U f' j
  | 0, f', j, h0, h1, h2, h3 => by
    have hj : j = 0 := by omega
    subst hj
    rcases hU.at_ 0 h0 h1 with ⟨_, h⟩ | ⟨h, _⟩
    · cases f' with
      | zero => rfl
      | succ f' => simp only [deepGo]; rw [if_pos (by omega)]
    · omega
  | f + 1, 0, j, h0, h1, h2, h3 => by
    have hj : j = 0 := by omega
    subst hj
    rcases hU.at_ 0 h0 h1 with ⟨_, h⟩ | ⟨h, _⟩
    · simp only [deepGo]; rw [if_pos (by omega)]
    · omega
  | f + 1, f' + 1, j, h0, h1, h2, h3 => by
    simp only [deepGo]
    rcases hU.at_ j h0 h1 with ⟨_, h⟩ | ⟨h, g1, g2, _⟩
    · rw [if_pos (by omega), if_pos (by omega)]
    · rw [if_neg (by omega), if_neg (by omega), deepGo_fuel hU f f' _ g1 (by omega) (by omega) (by omega)]
def maxGo (g : Int → Int) : Nat → Int
  | 0 => 0
  | n + 1 => max (maxGo g n) (g n)
theorem maxGo_spec (g : Int → Int) : ∀ n : Nat, (∀ j : Int, 0 ≤ j → j < n → 0 < g j) → (∀ j : Int, 0 ≤ j → j < n → g j ≤ maxGo g n) ∧ 0 ≤ maxGo g n ∧ (0 < n → ∃ j : Int, 0 ≤ j ∧ j < n ∧ g j = maxGo g n)
  | 0, _ => ⟨fun j h1 h2 => by omega, Int.le_refl _, fun h => by omega⟩
  | n + 1, hp => by
    obtain ⟨h1, h2, h3⟩ := maxGo_spec g n fun j a b => hp j a (by omega)
    have hn := hp n (by omega) (by omega)
    simp only [maxGo]
    refine ⟨fun j a b => ?_, by omega, fun _ => ?_⟩
    · by_cases hj : j = n
      · subst hj; omega
      · have := h1 j a (by omega); omega
    · by_cases hm : maxGo g n ≤ g n
      · exact ⟨n, by omega, by omega, by omega⟩
      · have : 0 < n := by
          rcases Nat.eq_zero_or_pos n with h | h
          · subst h; simp only [maxGo] at hm; omega
          · exact h
        obtain ⟨j, a, b, c⟩ := h3 this
        exact ⟨j, a, by omega, by omega⟩
theorem RootP.all {L : List Nd} (h : RootP L) : ∃ E U D, EndsOk L E ∧ UpsOk L E U ∧ U = mkI L.length (fun i => upGo E i i.toNat) ∧ DeepOk L U (maxGo D L.length) D := by
  obtain ⟨g, hg⟩ : ∃ g : Int → Int, ∀ j : Int, 0 ≤ j → j < L.length → g j ≤ L.length ∧ Ms L (j + 1) (nd L j).c (g j) := by
    refine ⟨fun j => Classical.epsilon fun e => e ≤ L.length ∧ Ms L (j + 1) (nd L j).c e, fun j h0 h1 => ?_⟩
    obtain ⟨_, _, e, h2, h3⟩ := h.node j h0 h1
    exact Classical.epsilon_spec (p := fun e : Int => e ≤ L.length ∧ Ms L (j + 1) (nd L j).c e) ⟨e, h2, h3⟩
  have hE : EndsOk L (mkI L.length g) := ⟨by simp [mkI], fun i h0 h1 => by rw [mkI_get i h0 h1]; exact (hg i h0 h1).2, fun i h0 h1 => by rw [mkI_get i h0 h1]; exact (hg i h0 h1).1⟩
  have h00 := h.1
  have hr := h.ends hE
  generalize mkI L.length g = E at hE hr
  have hU : UpsOk L E (mkI L.length fun i => upGo E i i.toNat) := by
    refine ⟨by simp [mkI], fun j h0 h1 => ?_⟩
    rw [mkI_get j h0 h1]
    by_cases hj : j = 0
    · subst hj; exact .inl ⟨rfl, rfl⟩
    · rcases upGo_spec E j j.toNat with ⟨h2, h3⟩ | ⟨h2, h3, h4, h5⟩
      · have := h3 0 (by omega) (by omega); omega
      · exact .inr ⟨by omega, h2, by omega, h4, fun k h6 h7 => h5 k h6 (by omega)⟩
  refine ⟨E, _, deepGo (mkI L.length fun i => upGo E i i.toNat) L.length, hE, hU, rfl, ?_⟩
  generalize mkI L.length (fun i => upGo E i i.toNat) = U at hU
  have hup : ∀ j : Int, 0 ≤ j → j < L.length → (j = 0 ∧ deepGo U L.length j = 1) ∨ (0 < j ∧ deepGo U L.length j = deepGo U L.length (getI 0 U j) + 1) := by
    intro j h0 h1
    obtain ⟨N, hN⟩ : ∃ N, L.length = N + 1 := ⟨L.length - 1, by omega⟩
    rcases hU.at_ j h0 h1 with ⟨h2, h3⟩ | ⟨h2, h3, h4, _⟩
    · refine .inl ⟨h2, ?_⟩
      rw [hN]; simp only [deepGo]; rw [if_pos (by omega)]
    · refine .inr ⟨h2, ?_⟩
      have e := deepGo_fuel hU N L.length (getI 0 U j) h3 (by omega) (by omega) (by omega)
      rw [← e]
      conv => lhs; rw [hN]
      simp only [deepGo]; rw [if_neg (by omega)]
  have hb : ∀ (n : Nat) (j : Int), 0 ≤ j → j < L.length → j < n → 0 < deepGo U L.length j ∧ deepGo U L.length j ≤ j + 1 := by
    intro n
    induction n with
    | zero => intro j h0 h1 h2; omega
    | succ n ih =>
      intro j h0 h1 h2
      rcases hup j h0 h1 with ⟨h3, h4⟩ | ⟨h3, h4⟩
      · omega
      · rcases hU.at_ j h0 h1 with ⟨h5, _⟩ | ⟨_, h5, h6, _⟩
        · omega
        · have := ih (getI 0 U j) h5 (by omega) (by omega); omega
  have hb' := fun j h0 h1 => hb L.length j h0 h1 h1
  obtain ⟨m1, m2, m3⟩ := maxGo_spec (deepGo U L.length) L.length fun j a b => (hb' j a b).1
  exact ⟨hup, fun j h0 h1 => ⟨m1 j h0 h1, hb' j h0 h1⟩, m3 h00⟩
end Go.Ex
