/-
  Tree: the stack of outline: what holds as it goes.
-/
import Derived.Test.YtggbpdhhfgmocaaTrA
namespace Go.Ex
open Go.Proofs
set_option linter.unusedVariables false

theorem getI_set {α : Type} (d : α) (l : List α) (i j : Int) (x : α) (h0 : 0 ≤ i) (h1 : i < l.length) (hj : 0 ≤ j) : getI d (l.set i.toNat x) j = if i = j then x else getI d l j := by
  simp only [getI, List.getD, List.getElem?_set]
  by_cases h : i = j
  · subst h
    have h2 : i.toNat < l.length := by omega
    simp [h2]
  · rw [if_neg (by omega), if_neg h]
/-- how far the open nodes are -/
def SK (L : List Nd) : Int → Int → List Fr → Prop
  | _, _, [] => True
  | b, i, x :: st => 0 ≤ x.p ∧ x.p < i ∧ x.p < L.length ∧ 0 ≤ (nd L x.p).c ∧ (nd L x.p).c ≤ L.length ∧ 0 ≤ x.c ∧ Ms L (x.p + 1) ((nd L x.p).c - x.c - b) i ∧ SK L 1 x.p st
/-- how deep the open nodes are -/
def DK (D : Int → Int) : List Fr → Prop
  | [] => True
  | x :: st => D x.p = st.length + 1 ∧ DK D st
structure Inv (L : List Nd) (n i : Int) (ys : List Fr) (E U : List Int) (deep : Int) (D : Int → Int) : Prop where
  i0 : 0 ≤ i
  iN : i ≤ L.length
  tree : TreeP L n ↔ SO L n i ys
  sk : SK L 0 i ys
  elen : E.length = L.length
  ulen : U.length = L.length
  ends : ∀ j : Int, 0 ≤ j → j < i → (∃ x ∈ ys, x.p = j) ∨ (getI 0 E j ≤ i ∧ Ms L (j + 1) (nd L j).c (getI 0 E j))
  ups : ∀ j : Int, 0 ≤ j → j < i → (j = 0 ∧ getI 0 U j = -1) ∨ (0 < j ∧ 0 ≤ getI 0 U j ∧ getI 0 U j < j ∧ ((∃ x ∈ ys, x.p = getI 0 U j) ∨ j < getI 0 E (getI 0 U j)) ∧ ∀ k, getI 0 U j < k → k < j → (∀ x ∈ ys, x.p ≠ k) ∧ getI 0 E k ≤ j)
  dk : DK D ys
  dup : ∀ j : Int, 0 ≤ j → j < i → (j = 0 ∧ D j = 1) ∨ (0 < j ∧ D j = D (getI 0 U j) + 1)
  dle : ∀ j : Int, 0 ≤ j → j < i → D j ≤ deep ∧ 0 < D j ∧ D j ≤ j + 1
  dex : ∃ j : Int, 0 ≤ j ∧ j < i ∧ D j = deep
theorem SK.bound {L : List Nd} : ∀ {ys : List Fr} {b i : Int}, SK L b i ys → (∀ x ∈ ys, 0 ≤ x.p ∧ x.p < i ∧ x.p < L.length) ∧ (ys.length : Int) ≤ max i 0
  | [], b, i, _ => ⟨by simp, by simp; omega⟩
  | x :: st, b, i, h => by
    obtain ⟨h1, h2, h3, _, _, _, _, h4⟩ := h
    obtain ⟨g1, g2⟩ := SK.bound h4
    refine ⟨fun y hy => ?_, by simp only [List.length_cons]; omega⟩
    rcases List.mem_cons.1 hy with rfl | hy
    · exact ⟨h1, h2, h3⟩
    · have := g1 y hy; omega
theorem SK.next {L : List Nd} {i q : Int} : ∀ {st : List Fr}, SK L 1 q st → q < i → 0 ≤ q → q < L.length → 0 ≤ (nd L q).c → (nd L q).c ≤ L.length → Ms L (q + 1) (nd L q).c i → SK L 0 i st
  | [], _, _, _, _, _, _, _ => trivial
  | y :: st, h, hq, h0, h1, hc0, hc1, hm => by
    obtain ⟨g1, g2, g3, g4, g5, g6, g7, g8⟩ := h
    refine ⟨g1, by omega, g3, g4, g5, g6, ?_, g8⟩
    have h2 := Ms.append g7 (Ms.cons (c := 1) (by omega) h0 h1 ⟨hc0, hc1⟩ hm (Ms.nil i))
    rw [show (nd L y.p).c - y.c - 1 + 1 = (nd L y.p).c - y.c - 0 by omega] at h2
    exact h2
theorem Inv.first {L : List Nd} {n : Int} (hN : 0 < L.length) (hl : lcP L n 0) {E U : List Int} (hE : E.length = L.length) (hU : U.length = L.length) (hu : getI 0 U 0 = -1) : Inv L n 1 [⟨0, (nd L 0).c, (nd L 0).f⟩] E U 1 (fun _ => 1) := by
  refine ⟨by omega, by omega, ?_, ⟨by simp, by simp, by simp; omega, hl.2.1, hl.2.2.1, hl.2.1, ?_, trivial⟩, hE, hU, fun j h0 h1 => .inl ⟨_, List.mem_singleton.2 rfl, by simp; omega⟩, fun j h0 h1 => .inl ⟨by omega, by rw [show j = 0 by omega]; exact hu⟩, ⟨by simp, trivial⟩, fun j h0 h1 => .inl ⟨by omega, rfl⟩, fun j h0 h1 => by omega, ⟨0, by omega, by omega, rfl⟩⟩
  · simp only [SO, TreeP]
    constructor
    · rintro ⟨_, _, h⟩; exact ⟨_, h, rfl⟩
    · rintro ⟨e, h, rfl⟩; exact ⟨hN, hl, h⟩
  · dsimp only
    rw [show (nd L 0).c - (nd L 0).c - 0 = 0 by omega]
    exact Ms.nil _
theorem Inv.push {L : List Nd} {n i : Int} {x : Fr} {st : List Fr} {E U : List Int} {deep : Int} {D : Int → Int} (h : Inv L n i (x :: st) E U deep D) (hi : i < L.length) (h0 : 0 < i) (hc : 0 < x.c) (hp : pcP L x.p i x.d) (hl : lcP L n i) {U' : List Int} (hU : U' = U.set i.toNat x.p) :
    Inv L n (i + 1) (⟨i, (nd L i).c, (nd L i).f⟩ :: ⟨x.p, x.c - 1, (nd L i).t⟩ :: st) E U' (max deep ((st.length : Int) + 2)) (fun j => if j = i then (st.length : Int) + 2 else D j) := by
  obtain ⟨k1, k2, k3, k4, k5, k6, k7, k8⟩ := h.sk
  have hb := (SK.bound h.sk).1
  have hb8 := (SK.bound k8).1
  have hU0 : ∀ j : Int, 0 ≤ j → getI 0 U' j = if i = j then x.p else getI 0 U j := fun j hj => by
    rw [hU, getI_set 0 U i j x.p (by omega) (by rw [h.ulen]; omega) hj]
  have hd := h.dk
  obtain ⟨d1, d2⟩ := hd
  have hxp := h.dle x.p k1 k2
  refine ⟨by omega, by omega, h.tree.trans (SO_push hc (by omega) hi hp hl), ⟨by dsimp only; omega, by dsimp only; omega, hi, hl.2.1, hl.2.2.1, hl.2.1, ?_, k1, k2, k3, k4, k5, by dsimp only; omega, ?_, k8⟩, h.elen, by rw [hU, List.length_set, h.ulen], ?_, ?_, ⟨by simp; omega, ?_, ?_⟩, ?_, ?_, ?_⟩
  · dsimp only
    rw [show (nd L i).c - (nd L i).c - 0 = 0 by omega]
    exact Ms.nil _
  · dsimp only
    rw [show (nd L x.p).c - (x.c - 1) - 1 = (nd L x.p).c - x.c - 0 by omega]
    exact k7
  · intro j hj0 hj1
    by_cases hji : j = i
    · exact .inl ⟨_, List.mem_cons_self, hji.symm⟩
    · rcases h.ends j hj0 (by omega) with ⟨y, hy, rfl⟩ | ⟨h1, h2⟩
      · left
        rcases List.mem_cons.1 hy with rfl | hy
        · exact ⟨_, List.mem_cons_of_mem _ List.mem_cons_self, rfl⟩
        · exact ⟨y, List.mem_cons_of_mem _ (List.mem_cons_of_mem _ hy), rfl⟩
      · exact .inr ⟨by omega, h2⟩
  · intro j hj0 hj1
    rw [hU0 j hj0]
    by_cases hji : i = j
    · subst hji
      rw [if_pos rfl]
      refine .inr ⟨h0, k1, k2, .inl ⟨_, List.mem_cons_of_mem _ List.mem_cons_self, rfl⟩, fun k hk1 hk2 => ?_⟩
      have hno : ∀ y ∈ x :: st, y.p ≠ k := fun y hy e => by
        rcases List.mem_cons.1 hy with rfl | hy
        · omega
        · have := hb8 y hy; omega
      refine ⟨fun y hy => ?_, ?_⟩
      · rcases List.mem_cons.1 hy with rfl | hy
        · dsimp only; omega
        · rcases List.mem_cons.1 hy with rfl | hy
          · exact hno x List.mem_cons_self
          · exact hno y (List.mem_cons_of_mem _ hy)
      · rcases h.ends k (by omega) hk2 with ⟨y, hy, e⟩ | ⟨h1, _⟩
        · exact absurd e (hno y hy)
        · exact h1
    · rw [if_neg hji]
      rcases h.ups j hj0 (by omega) with h1 | ⟨h1, h2, h3, h4, h5⟩
      · exact .inl h1
      · refine .inr ⟨h1, h2, h3, ?_, fun k hk1 hk2 => ⟨fun y hy => ?_, (h5 k hk1 hk2).2⟩⟩
        · rcases h4 with ⟨y, hy, e⟩ | h4
          · left
            rcases List.mem_cons.1 hy with rfl | hy
            · exact ⟨_, List.mem_cons_of_mem _ List.mem_cons_self, e⟩
            · exact ⟨y, List.mem_cons_of_mem _ (List.mem_cons_of_mem _ hy), e⟩
          · exact .inr h4
        · rcases List.mem_cons.1 hy with rfl | hy
          · dsimp only; omega
          · rcases List.mem_cons.1 hy with rfl | hy
            · exact (h5 k hk1 hk2).1 x List.mem_cons_self
            · exact (h5 k hk1 hk2).1 y (List.mem_cons_of_mem _ hy)
  · simp only; rw [if_neg (show ¬ x.p = i by omega)]; exact d1
  · have key : ∀ (v : Int) (st : List Fr), (∀ y ∈ st, y.p < i) → DK D st → DK (fun j => if j = i then v else D j) st := by
      intro v st
      induction st with
      | nil => exact fun _ _ => trivial
      | cons y st ih =>
        intro hy hd
        refine ⟨?_, ih (fun z hz => hy z (List.mem_cons_of_mem _ hz)) hd.2⟩
        have := hy y List.mem_cons_self
        show (if y.p = i then v else D y.p) = _
        rw [if_neg (by omega)]; exact hd.1
    exact key _ st (fun y hy => by have := hb8 y hy; omega) d2
  · intro j hj0 hj1
    rw [hU0 j hj0]
    by_cases hji : i = j
    · subst hji
      rw [if_pos rfl, if_pos rfl, if_neg (by omega)]
      exact .inr ⟨h0, by omega⟩
    · rw [if_neg hji, if_neg (by omega)]
      rcases h.dup j hj0 (by omega) with h1 | ⟨h1, h2⟩
      · exact .inl h1
      · refine .inr ⟨h1, ?_⟩
        rcases h.ups j hj0 (by omega) with ⟨h3, _⟩ | ⟨_, _, h3, _⟩
        · omega
        · rw [if_neg (by omega)]; exact h2
  · intro j hj0 hj1
    by_cases hji : j = i
    · rw [if_pos hji]; omega
    · rw [if_neg hji]
      have := h.dle j hj0 (by omega)
      omega
  · by_cases hm : deep ≤ (st.length : Int) + 2
    · exact ⟨i, by omega, by omega, by rw [if_pos rfl]; omega⟩
    · obtain ⟨j, j0, j1, j2⟩ := h.dex
      exact ⟨j, j0, by omega, by rw [if_neg (by omega)]; omega⟩
theorem Inv.pop {L : List Nd} {n i : Int} {x : Fr} {st : List Fr} {E U : List Int} {deep : Int} {D : Int → Int} (h : Inv L n i (x :: st) E U deep D) (hc : x.c = 0) {E' : List Int} (hE : E' = E.set x.p.toNat i) : Inv L n i st E' U deep D := by
  obtain ⟨k1, k2, k3, k4, k5, k6, k7, k8⟩ := h.sk
  rw [hc, show (nd L x.p).c - 0 - 0 = (nd L x.p).c by omega] at k7
  have hb8 := (SK.bound k8).1
  have hE0 : ∀ j : Int, 0 ≤ j → getI 0 E' j = if x.p = j then i else getI 0 E j := fun j hj => by
    rw [hE, getI_set 0 E x.p j i k1 (by rw [h.elen]; omega) hj]
  refine ⟨h.i0, h.iN, h.tree.trans (SO_pop hc), k8.next k2 k1 k3 k4 k5 k7, by rw [hE, List.length_set, h.elen], h.ulen, ?_, ?_, h.dk.2, h.dup, h.dle, h.dex⟩
  · intro j hj0 hj1
    rw [hE0 j hj0]
    by_cases hj : x.p = j
    · subst hj
      rw [if_pos rfl]
      exact .inr ⟨Int.le_refl _, k7⟩
    · rw [if_neg hj]
      rcases h.ends j hj0 hj1 with ⟨y, hy, e⟩ | h1
      · rcases List.mem_cons.1 hy with rfl | hy
        · exact absurd e hj
        · exact .inl ⟨y, hy, e⟩
      · exact .inr h1
  · intro j hj0 hj1
    rcases h.ups j hj0 hj1 with h1 | ⟨h1, h2, h3, h4, h5⟩
    · exact .inl h1
    · refine .inr ⟨h1, h2, h3, ?_, fun k hk1 hk2 => ⟨fun y hy => (h5 k hk1 hk2).1 y (List.mem_cons_of_mem _ hy), ?_⟩⟩
      · rw [hE0 _ h2]
        by_cases hx : x.p = getI 0 U j
        · rw [if_pos hx]; exact .inr hj1
        · rw [if_neg hx]
          rcases h4 with ⟨y, hy, e⟩ | h4
          · rcases List.mem_cons.1 hy with rfl | hy
            · exact absurd e hx
            · exact .inl ⟨y, hy, e⟩
          · exact .inr h4
      · rw [hE0 k (by omega), if_neg ((h5 k hk1 hk2).1 x List.mem_cons_self)]
        exact (h5 k hk1 hk2).2
/-- the nodes above -/
structure UpsOk (L : List Nd) (E U : List Int) : Prop where
  len : U.length = L.length
  at_ : ∀ j : Int, 0 ≤ j → j < L.length → (j = 0 ∧ getI 0 U j = -1) ∨ (0 < j ∧ 0 ≤ getI 0 U j ∧ getI 0 U j < j ∧ j < getI 0 E (getI 0 U j) ∧ ∀ k, getI 0 U j < k → k < j → getI 0 E k ≤ j)
structure DeepOk (L : List Nd) (U : List Int) (deep : Int) (D : Int → Int) : Prop where
  up : ∀ j : Int, 0 ≤ j → j < L.length → (j = 0 ∧ D j = 1) ∨ (0 < j ∧ D j = D (getI 0 U j) + 1)
  le : ∀ j : Int, 0 ≤ j → j < L.length → D j ≤ deep ∧ 0 < D j ∧ D j ≤ j + 1
  ex : ∃ j : Int, 0 ≤ j ∧ j < L.length ∧ D j = deep
theorem Inv.done {L : List Nd} {n i : Int} {E U : List Int} {deep : Int} {D : Int → Int} (h : Inv L n i [] E U deep D) (hi : i = L.length) : TreeP L n ∧ EndsOk L E ∧ UpsOk L E U ∧ DeepOk L U deep D := by
  refine ⟨h.tree.2 hi, ⟨h.elen, fun j h0 h1 => ?_, fun j h0 h1 => ?_⟩, ⟨h.ulen, fun j h0 h1 => ?_⟩, ⟨fun j h0 h1 => h.dup j h0 (by omega), fun j h0 h1 => h.dle j h0 (by omega), by obtain ⟨j, h1, h2, h3⟩ := h.dex; exact ⟨j, h1, by omega, h3⟩⟩⟩
  · rcases h.ends j h0 (by omega) with ⟨y, hy, _⟩ | h2
    · cases hy
    · exact h2.2
  · rcases h.ends j h0 (by omega) with ⟨y, hy, _⟩ | h2
    · cases hy
    · omega
  · rcases h.ups j h0 (by omega) with h2 | ⟨h2, h3, h4, h5, h6⟩
    · exact .inl h2
    · refine .inr ⟨h2, h3, h4, ?_, fun k hk1 hk2 => (h6 k hk1 hk2).2⟩
      rcases h5 with ⟨y, hy, _⟩ | h5
      · cases hy
      · exact h5
theorem Inv.not {L : List Nd} {n i : Int} {x : Fr} {st : List Fr} {E U : List Int} {deep : Int} {D : Int → Int} (h : Inv L n i (x :: st) E U deep D) (hc : 0 < x.c) (hn : ¬ (pcP L x.p i x.d ∧ lcP L n i ∧ i < L.length)) : ¬ TreeP L n := fun ht => hn (SO_must hc (h.tree.1 ht))
theorem Inv.none {L : List Nd} {n i : Int} {E U : List Int} {deep : Int} {D : Int → Int} (h : Inv L n i [] E U deep D) (hi : i < L.length) : ¬ TreeP L n := fun ht => by
  have : i = L.length := h.tree.1 ht
  omega
end Go.Ex
