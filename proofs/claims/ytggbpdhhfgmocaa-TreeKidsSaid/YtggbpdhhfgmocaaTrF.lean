/-
  Tree: the reference's End, Ends, Tree, Check.
-/
import Derived.Test.YtggbpdhhfgmocaaTrE
namespace Go.Ex
open Go.Proofs
set_option linter.unusedVariables false

noncomputable def rendV (L : List Nd) (i : Int) : Int := @ite _ (∃ e, Ms L i 1 e) (Classical.propDecidable _) (Classical.epsilon fun e => Ms L i 1 e) (-1)
theorem rend_yes {L : List Nd} {i e : Int} (h : Ms L i 1 e) : rendV L i = e := by
  rw [rendV, if_pos ⟨e, h⟩]
  exact (Classical.epsilon_spec (p := fun e => Ms L i 1 e) ⟨e, h⟩).uniq h
theorem rend_no {L : List Nd} {i : Int} (h : ∀ e, ¬ Ms L i 1 e) : rendV L i = -1 := by
  rw [rendV, if_neg (fun ⟨e, h'⟩ => h e h')]
set_option maxHeartbeats 1000000 in
set_option maxRecDepth 10000 in
theorem rend_any (A : Option Addr) (len cap : Nat) (L : List Nd) (i : Int) (h : Heap) (hA : Sl ndR h A len L) (h2 : len ≤ 2000) (hi0 : 0 ≤ i) (hi1 : i ≤ len) :
    CallsH Try.prog 20 #[.slice A len cap, .int .i64 i] h fun v h' => v = .int .i64 (rendV L i) ∧ Grows h h' := by
  refine enter (rep := rep) (m := 6) (ex := []) (cu := []) tysOk Try.func20 rfl (by decide) (rs := [.tmp 4]) rfl rfl [.val (.slice A len cap), .val (.int .i64 i)] rfl ?_
  have hL := hA.len_eq
  obtain ⟨r, hr⟩ : ∃ r, rendV L i = r := ⟨_, rfl⟩
  ((repeat' ((conv => whnf); (first | (refine Ar.fit (by omega) ?_) | (refine VC.mk (by (first | omega | rfl | assumption | exact Sl.plain (by assumption) (by omega) | (and_intros <;> first | omega | rfl | assumption | (simp only [List.length_set]; omega) | (simp only [ByteArray.size_extract, ByteArray.size_append]; omega) | (simp only [List.length_cons, List.length_nil]; omega) | (simp only [Int.toNat_natCast, Int.toNat_one, List.length_take, List.length_cons, List.length_nil] at *; omega)))) ?_) | (refine Br.mk ?_ ?_ <;> intro hb <;> (try (first | (exfalso; omega) | exact absurd rfl hb | exact Bool.noConfusion hb | exact absurd (fun e => Bool.noConfusion e) hb | (exfalso; simp only [List.length_cons, List.length_nil] at hb; omega) | (exfalso; simp only [Int.toNat_natCast, Int.toNat_one, List.length_take, List.length_cons, List.length_nil] at hb; omega)))) | (refine XLoad.of (by assumption) rfl rfl (by omega) (by omega) rfl ?_) | (refine New.mk ?_; intro b hb) | (refine New2.mk ?_; intro b c hb hbc) | (refine SameR.same ?_) | (refine Two.mk ?_ ?_) | (refine ed_eql ?_) | (refine ed_neq ?_) | (refine drawn tysOk mixed (by kernel_rfl) ?_) | fail))); all_goals (try (conv => whnf)))
  refine loop_rule tysOk [1, 5] (fun x : Int × Int => [(1, .val (.int .i64 x.1)), (5, .val (.int .i64 x.2))]) (fun _ => []) (fun μ x => 0 ≤ x.1 ∧ x.1 ≤ len ∧ 0 ≤ x.2 ∧ x.2 ≤ 1 + 2000 * x.1 ∧ (∀ e, Ms L i 1 e ↔ Ms L x.1 x.2 e) ∧ μ = (len + 1 - x.1).toNat) (len + 1 - i).toNat (i, 1) ?_
  conv => whnf
  refine ⟨by ((repeat (refine ⟨rfl, ?_⟩)); trivial), trivial, ⟨hi0, hi1, by simp, by dsimp only; omega, fun e => Iff.rfl, by dsimp only⟩, ?_⟩
  rintro μ ⟨k, c⟩ ⟨a0, a1, a2, a3, a4, a5⟩
  dsimp only at a0 a1 a2 a3 a4 a5 ⊢
  by_cases hc : c = 0
  · have hk : rendV L i = k := rend_yes ((a4 k).2 (by rw [hc]; exact Ms.nil k))
    ((repeat' ((conv => whnf); (first | (refine Ar.fit (by omega) ?_) | (refine VC.mk (by (first | omega | rfl | assumption | exact Sl.plain (by assumption) (by omega) | (and_intros <;> first | omega | rfl | assumption | (simp only [List.length_set]; omega) | (simp only [ByteArray.size_extract, ByteArray.size_append]; omega) | (simp only [List.length_cons, List.length_nil]; omega) | (simp only [Int.toNat_natCast, Int.toNat_one, List.length_take, List.length_cons, List.length_nil] at *; omega)))) ?_) | (refine Br.mk ?_ ?_ <;> intro hb <;> (try (first | (exfalso; omega) | exact absurd rfl hb | exact Bool.noConfusion hb | exact absurd (fun e => Bool.noConfusion e) hb | (exfalso; simp only [List.length_cons, List.length_nil] at hb; omega) | (exfalso; simp only [Int.toNat_natCast, Int.toNat_one, List.length_take, List.length_cons, List.length_nil] at hb; omega)))) | (refine XLoad.of (by assumption) rfl rfl (by omega) (by omega) rfl ?_) | (refine New.mk ?_; intro b hb) | (refine New2.mk ?_; intro b c hb hbc) | (refine SameR.same ?_) | (refine Two.mk ?_ ?_) | (refine ed_eql ?_) | (refine ed_neq ?_) | (refine drawn tysOk mixed (by kernel_rfl) ?_) | fail))); all_goals (try (conv => whnf)))
    exact ⟨fun h' hs => ⟨int_eq hk.symm, hs.grows⟩⟩
  · have hno : (¬ (k < len) ∨ (nd L k).c < 0 ∨ len < (nd L k).c) → rendV L i = -1 := fun hh => rend_no fun e he => by
      rcases ((a4 e).1 he).cases with ⟨g, _⟩ | ⟨g1, g2, g3, g4, g5, _⟩
      · exact hc g
      · omega
    simp only [nd] at hno
    ((repeat' ((conv => whnf); (first | (refine Ar.fit (by omega) ?_) | (refine VC.mk (by (first | omega | rfl | assumption | exact Sl.plain (by assumption) (by omega) | (and_intros <;> first | omega | rfl | assumption | (simp only [List.length_set]; omega) | (simp only [ByteArray.size_extract, ByteArray.size_append]; omega) | (simp only [List.length_cons, List.length_nil]; omega) | (simp only [Int.toNat_natCast, Int.toNat_one, List.length_take, List.length_cons, List.length_nil] at *; omega)))) ?_) | (refine Br.mk ?_ ?_ <;> intro hb <;> (try (first | (exfalso; omega) | exact absurd rfl hb | exact Bool.noConfusion hb | exact absurd (fun e => Bool.noConfusion e) hb | (exfalso; simp only [List.length_cons, List.length_nil] at hb; omega) | (exfalso; simp only [Int.toNat_natCast, Int.toNat_one, List.length_take, List.length_cons, List.length_nil] at hb; omega)))) | (refine XLoad.of (by assumption) rfl rfl (by omega) (by omega) rfl ?_) | (refine New.mk ?_; intro b hb) | (refine New2.mk ?_; intro b c hb hbc) | (refine SameR.same ?_) | (refine Two.mk ?_ ?_) | (refine ed_eql ?_) | (refine ed_neq ?_) | (refine drawn tysOk mixed (by kernel_rfl) ?_) | fail))); all_goals (try (conv => whnf)))
    · exact ⟨fun h' hs => ⟨int_eq (hno (by omega)).symm, hs.grows⟩⟩
    · exact ⟨fun h' hs => ⟨int_eq (hno (by omega)).symm, hs.grows⟩⟩
    · exact ⟨fun h' hs => ⟨int_eq (hno (by omega)).symm, hs.grows⟩⟩
    refine ⟨μ - 1, ⟨k + 1, c - 1 + (getI ndR.dflt L k).c⟩, ⟨by dsimp only; omega, by dsimp only; omega, by dsimp only; omega, by dsimp only; omega, fun e => (a4 e).trans ?_, by omega⟩, by omega, by ((repeat (refine ⟨rfl, ?_⟩)); trivial), rfl, rfl, trivial⟩
    dsimp only
    rw [show c - 1 + (getI ndR.dflt L k).c = (nd L k).c + (c - 1) by simp only [nd]; omega]
    constructor
    · intro he
      rcases he.cases with ⟨g, _⟩ | ⟨g1, g2, g3, g4, g5, m, g6, g7⟩
      · exact absurd g hc
      · exact g6.append g7
    · intro he
      obtain ⟨m, g6, g7⟩ := Ms.split (by simp only [nd]; omega) (by omega) he
      exact Ms.cons (by omega) a0 (by omega) ⟨by simp only [nd]; omega, by simp only [nd]; omega⟩ g6 g7
/-- the numbers of kids make one tree -/
def RootP (L : List Nd) : Prop := 0 < L.length ∧ Ms L 0 1 L.length
theorem RootP.node {L : List Nd} (h : RootP L) (j : Int) (h0 : 0 ≤ j) (h1 : j < L.length) : 0 ≤ (nd L j).c ∧ (nd L j).c ≤ L.length ∧ ∃ e : Int, e ≤ L.length ∧ Ms L (j + 1) (nd L j).c e := by
  obtain ⟨hl, _, e, he, hk⟩ := Kd.nest h.2 j h0 h1
  exact ⟨hl.1, hl.2, e, he, Ms.of (hk.ms (fun _ h => h) 0 0)⟩
theorem TreeP.root {L : List Nd} {n : Int} (h : TreeP L n) : RootP L :=
  ⟨h.1, Ms.cons (by omega) (by omega) (by have := h.1; omega) (lcP_c h.2.1) (Ms.of (h.2.2.ms (fun _ h => lcP_c h) 0 0)) (Ms.nil _)⟩
theorem RootP.ends {L : List Nd} {E : List Int} (h : RootP L) (hE : EndsOk L E) : getI 0 E 0 = L.length := by
  have h0 := h.1
  have h1 := Ms.cons (c := 1) (by omega) (Int.le_refl 0) (by omega) ⟨(h.node 0 (by omega) (by omega)).1, (h.node 0 (by omega) (by omega)).2.1⟩ (hE.at_ 0 (by omega) (by omega)) (Ms.nil _)
  exact h1.uniq h.2
set_option maxHeartbeats 1000000 in
set_option maxRecDepth 10000 in
theorem ends_any (A : Option Addr) (len cap : Nat) (L : List Nd) (h : Heap) (hA : Sl ndR h A len L) (h2 : len ≤ 2000) :
    CallsH Try.prog 27 #[.slice A len cap] h fun v h' => Grows h h' ∧ ∃ x b E, v = .tuple #[x, .bool b] ∧ OwnSl (intR .i64) 3 h h' x E ∧ (b = true ↔ RootP L) ∧ (b = true → EndsOk L E) := by
  refine enter (rep := rep) (m := 8) (ex := []) (cu := []) tysOk Try.func27 rfl (by decide) (rs := [.tmp 2, .tmp 3]) rfl rfl [.val (.slice A len cap)] rfl ?_
  have hL := hA.len_eq
  by_cases h0 : len = 0
  · have hno : ¬ RootP L := fun h => by have := h.1; omega
    ((repeat' ((conv => whnf); (first | (refine Ar.fit (by omega) ?_) | (refine VC.mk (by (first | omega | rfl | assumption | exact Sl.plain (by assumption) (by omega) | (and_intros <;> first | omega | rfl | assumption | (simp only [List.length_set]; omega) | (simp only [ByteArray.size_extract, ByteArray.size_append]; omega) | (simp only [List.length_cons, List.length_nil]; omega) | (simp only [Int.toNat_natCast, Int.toNat_one, List.length_take, List.length_cons, List.length_nil] at *; omega)))) ?_) | (refine Br.mk ?_ ?_ <;> intro hb <;> (try (first | (exfalso; omega) | exact absurd rfl hb | exact Bool.noConfusion hb | exact absurd (fun e => Bool.noConfusion e) hb | (exfalso; simp only [List.length_cons, List.length_nil] at hb; omega) | (exfalso; simp only [Int.toNat_natCast, Int.toNat_one, List.length_take, List.length_cons, List.length_nil] at hb; omega)))) | (refine XLoad.of (by assumption) rfl rfl (by omega) (by omega) rfl ?_) | (refine New.mk ?_; intro b hb) | (refine New2.mk ?_; intro b c hb hbc) | (refine SameR.same ?_) | (refine Two.mk ?_ ?_) | (refine ed_eql ?_) | (refine ed_neq ?_) | (refine drawn tysOk mixed (by kernel_rfl) ?_) | fail))); all_goals (try (conv => whnf)))
    exact ⟨fun h' hs => ⟨hs.grows, _, false, [], rfl, .nil, ⟨fun e => (by cases e), fun e => absurd e hno⟩, fun e => (by cases e)⟩⟩
  by_cases hr : RootP L
  · have hE : rendV L 0 = len := by rw [rend_yes hr.2, hL]
    have hRe := fun h hA => rend_any A len cap L 0 h hA h2 (by omega) (by omega)
    rw [hE] at hRe
    ((repeat' ((conv => whnf); (first | (refine Ar.fit (by omega) ?_) | (refine VC.mk (by (first | omega | rfl | assumption | exact Sl.plain (by assumption) (by omega) | (and_intros <;> first | omega | rfl | assumption | (simp only [List.length_set]; omega) | (simp only [ByteArray.size_extract, ByteArray.size_append]; omega) | (simp only [List.length_cons, List.length_nil]; omega) | (simp only [Int.toNat_natCast, Int.toNat_one, List.length_take, List.length_cons, List.length_nil] at *; omega)))) ?_) | (refine Br.mk ?_ ?_ <;> intro hb <;> (try (first | (exfalso; omega) | exact absurd rfl hb | exact Bool.noConfusion hb | exact absurd (fun e => Bool.noConfusion e) hb | (exfalso; simp only [List.length_cons, List.length_nil] at hb; omega) | (exfalso; simp only [Int.toNat_natCast, Int.toNat_one, List.length_take, List.length_cons, List.length_nil] at hb; omega)))) | (refine XLoad.of (by assumption) rfl rfl (by omega) (by omega) rfl ?_) | (refine New.mk ?_; intro b hb) | (refine New2.mk ?_; intro b c hb hbc) | (refine SameR.same ?_) | (refine Two.mk ?_ ?_) | (refine ed_eql ?_) | (refine ed_neq ?_) | (refine drawn tysOk mixed (by kernel_rfl) ?_) | (apply CallK.pure; (case hh => (intro h1 hs; exact hRe _ (hA.grows hs.grows)))) | fail))); all_goals (try (conv => whnf)))
    refine loop_rule tysOk [5] (fun x : List Int × Int => [(5, .val (.int .i64 x.2))]) (fun x => [(20, b, .arr 3 (intR .i64) x.1 len)]) (fun μ x => -1 ≤ x.2 ∧ x.2 < len ∧ μ = (x.2 + 1).toNat ∧ x.1.length = len ∧ ∀ j : Int, x.2 < j → j < len → Ms L (j + 1) (nd L j).c (getI 0 x.1 j) ∧ getI 0 x.1 j ≤ len) len (List.replicate len 0, (len : Int) - 1) ?_
    conv => whnf
    refine ⟨by ((repeat (refine ⟨rfl, ?_⟩)); trivial), ⟨rfl, rfl, trivial⟩, ⟨by dsimp only; omega, by dsimp only; omega, by dsimp only; omega, by simp, fun j h1 h2 => absurd h1 (by dsimp only; omega)⟩, ?_⟩
    rintro μ ⟨E, i⟩ ⟨a0, a1, a2, a3, a4⟩
    dsimp only at a0 a1 a2 a3 a4 ⊢
    by_cases hi : 0 ≤ i
    · obtain ⟨n1, n2, e, n3, n4⟩ := hr.node i hi (by omega)
      ((repeat' ((conv => whnf); (first | (refine Ar.fit (by omega) ?_) | (refine VC.mk (by (first | omega | rfl | assumption | exact Sl.plain (by assumption) (by omega) | (and_intros <;> first | omega | rfl | assumption | (simp only [List.length_set]; omega) | (simp only [ByteArray.size_extract, ByteArray.size_append]; omega) | (simp only [List.length_cons, List.length_nil]; omega) | (simp only [Int.toNat_natCast, Int.toNat_one, List.length_take, List.length_cons, List.length_nil] at *; omega)))) ?_) | (refine Br.mk ?_ ?_ <;> intro hb <;> (try (first | (exfalso; omega) | exact absurd rfl hb | exact Bool.noConfusion hb | exact absurd (fun e => Bool.noConfusion e) hb | (exfalso; simp only [List.length_cons, List.length_nil] at hb; omega) | (exfalso; simp only [Int.toNat_natCast, Int.toNat_one, List.length_take, List.length_cons, List.length_nil] at hb; omega)))) | (refine XLoad.of (by assumption) rfl rfl (by omega) (by omega) rfl ?_) | (refine New.mk ?_; intro b hb) | (refine New2.mk ?_; intro b c hb hbc) | (refine SameR.same ?_) | (refine Two.mk ?_ ?_) | (refine ed_eql ?_) | (refine ed_neq ?_) | (refine drawn tysOk mixed (by kernel_rfl) ?_) | fail))); all_goals (try (conv => whnf)))
      refine loop_rule tysOk [6, 7] (fun x : Int × Int => [(6, .val (.int .i64 x.1)), (7, .val (.int .i64 x.2))]) (fun x => [(20, b, .arr 3 (intR .i64) E len)]) (fun μ x => 0 ≤ x.2 ∧ i < x.1 ∧ Ms L x.1 ((nd L i).c - x.2) e ∧ μ = ((nd L i).c - x.2).toNat) (nd L i).c.toNat (i + 1, 0) ?_
      conv => whnf
      refine ⟨by ((repeat (refine ⟨rfl, ?_⟩)); trivial), ⟨rfl, rfl, trivial⟩, ⟨by simp, by dsimp only; omega, by simpa using n4, by simp⟩, ?_⟩
      rintro ν ⟨k, n⟩ ⟨b0, b1, b2, b3⟩
      dsimp only at b0 b1 b2 b3 ⊢
      simp only [nd] at b3 n1 n2
      rcases b2.cases with ⟨g, ek⟩ | ⟨g1, g2, g3, g4, g5, m, g6, g7⟩
      · simp only [nd] at g
        ((repeat' ((conv => whnf); (first | (refine Ar.fit (by omega) ?_) | (refine VC.mk (by (first | omega | rfl | assumption | exact Sl.plain (by assumption) (by omega) | (and_intros <;> first | omega | rfl | assumption | (simp only [List.length_set]; omega) | (simp only [ByteArray.size_extract, ByteArray.size_append]; omega) | (simp only [List.length_cons, List.length_nil]; omega) | (simp only [Int.toNat_natCast, Int.toNat_one, List.length_take, List.length_cons, List.length_nil] at *; omega)))) ?_) | (refine Br.mk ?_ ?_ <;> intro hb <;> (try (first | (exfalso; omega) | exact absurd rfl hb | exact Bool.noConfusion hb | exact absurd (fun e => Bool.noConfusion e) hb | (exfalso; simp only [List.length_cons, List.length_nil] at hb; omega) | (exfalso; simp only [Int.toNat_natCast, Int.toNat_one, List.length_take, List.length_cons, List.length_nil] at hb; omega)))) | (refine XLoad.of (by assumption) rfl rfl (by omega) (by omega) rfl ?_) | (refine New.mk ?_; intro b hb) | (refine New2.mk ?_; intro b c hb hbc) | (refine SameR.same ?_) | (refine Two.mk ?_ ?_) | (refine ed_eql ?_) | (refine ed_neq ?_) | (refine drawn tysOk mixed (by kernel_rfl) ?_) | fail))); all_goals (try (conv => whnf)))
        refine ⟨μ - 1, ⟨E.set i.toNat k, i - 1⟩, ⟨by dsimp only; omega, by dsimp only; omega, by dsimp only; omega, by dsimp only; rw [List.length_set]; exact a3, fun j h1 h2 => ?_⟩, by omega, by ((repeat (refine ⟨rfl, ?_⟩)); trivial), rfl, rfl, ⟨rfl, rfl, trivial⟩⟩
        dsimp only at h1 ⊢
        rw [getI_set 0 E i j k hi (by omega) (by omega)]
        by_cases hj : i = j
        · subst hj
          rw [if_pos rfl, ← ek]
          exact ⟨n4, by omega⟩
        · rw [if_neg hj]
          exact a4 j (by omega) h2
      · simp only [nd] at g1
        have hk := (a4 k b1 (by omega)).1
        have z : getI (intR .i64).dflt E k = m := hk.uniq g6
        have hge := Kd.ge g6
        simp only [nd] at g4 hge
        ((repeat' ((conv => whnf); (first | (refine Ar.fit (by omega) ?_) | (refine VC.mk (by (first | omega | rfl | assumption | exact Sl.plain (by assumption) (by omega) | (and_intros <;> first | omega | rfl | assumption | (simp only [List.length_set]; omega) | (simp only [ByteArray.size_extract, ByteArray.size_append]; omega) | (simp only [List.length_cons, List.length_nil]; omega) | (simp only [Int.toNat_natCast, Int.toNat_one, List.length_take, List.length_cons, List.length_nil] at *; omega)))) ?_) | (refine Br.mk ?_ ?_ <;> intro hb <;> (try (first | (exfalso; omega) | exact absurd rfl hb | exact Bool.noConfusion hb | exact absurd (fun e => Bool.noConfusion e) hb | (exfalso; simp only [List.length_cons, List.length_nil] at hb; omega) | (exfalso; simp only [Int.toNat_natCast, Int.toNat_one, List.length_take, List.length_cons, List.length_nil] at hb; omega)))) | (refine XLoad.of (by assumption) rfl rfl (by omega) (by omega) rfl ?_) | (refine New.mk ?_; intro b hb) | (refine New2.mk ?_; intro b c hb hbc) | (refine SameR.same ?_) | (refine Two.mk ?_ ?_) | (refine ed_eql ?_) | (refine ed_neq ?_) | (refine drawn tysOk mixed (by kernel_rfl) ?_) | fail))); all_goals (try (conv => whnf)))
        refine ⟨ν - 1, ⟨getI (intR .i64).dflt E k, n + 1⟩, ⟨by dsimp only; omega, by dsimp only; omega, ?_, by dsimp only [nd]; omega⟩, by omega, by ((repeat (refine ⟨rfl, ?_⟩)); trivial), rfl, rfl, ⟨rfl, rfl, trivial⟩⟩
        dsimp only
        rw [z, show (nd L i).c - (n + 1) = (nd L i).c - n - 1 by omega]
        exact g7
    · ((repeat' ((conv => whnf); (first | (refine Ar.fit (by omega) ?_) | (refine VC.mk (by (first | omega | rfl | assumption | exact Sl.plain (by assumption) (by omega) | (and_intros <;> first | omega | rfl | assumption | (simp only [List.length_set]; omega) | (simp only [ByteArray.size_extract, ByteArray.size_append]; omega) | (simp only [List.length_cons, List.length_nil]; omega) | (simp only [Int.toNat_natCast, Int.toNat_one, List.length_take, List.length_cons, List.length_nil] at *; omega)))) ?_) | (refine Br.mk ?_ ?_ <;> intro hb <;> (try (first | (exfalso; omega) | exact absurd rfl hb | exact Bool.noConfusion hb | exact absurd (fun e => Bool.noConfusion e) hb | (exfalso; simp only [List.length_cons, List.length_nil] at hb; omega) | (exfalso; simp only [Int.toNat_natCast, Int.toNat_one, List.length_take, List.length_cons, List.length_nil] at hb; omega)))) | (refine XLoad.of (by assumption) rfl rfl (by omega) (by omega) rfl ?_) | (refine New.mk ?_; intro b hb) | (refine New2.mk ?_; intro b c hb hbc) | (refine SameR.same ?_) | (refine Two.mk ?_ ?_) | (refine ed_eql ?_) | (refine ed_neq ?_) | (refine drawn tysOk mixed (by kernel_rfl) ?_) | fail))); all_goals (try (conv => whnf)))
      exact ⟨fun h' hs => ⟨hs.grows, _, true, E, rfl, hs.own (k := 20) rfl (by omega), ⟨fun _ => hr, fun _ => rfl⟩, fun _ => ⟨by omega, fun j h1 h2 => (a4 j (by omega) (by omega)).1, fun j h1 h2 => by rw [hL]; exact (a4 j (by omega) (by omega)).2⟩⟩⟩
  · have hE : ¬ rendV L 0 = len := fun he => hr (by
      refine ⟨by omega, ?_⟩
      by_cases hex : ∃ e, Ms L 0 1 e
      · obtain ⟨e, he'⟩ := hex
        rw [rend_yes he'] at he
        rw [hL, ← he]; exact he'
      · rw [rend_no (fun e h => hex ⟨e, h⟩)] at he
        omega)
    have hRe := fun h hA => rend_any A len cap L 0 h hA h2 (by omega) (by omega)
    ((repeat' ((conv => whnf); (first | (refine Ar.fit (by omega) ?_) | (refine VC.mk (by (first | omega | rfl | assumption | exact Sl.plain (by assumption) (by omega) | (and_intros <;> first | omega | rfl | assumption | (simp only [List.length_set]; omega) | (simp only [ByteArray.size_extract, ByteArray.size_append]; omega) | (simp only [List.length_cons, List.length_nil]; omega) | (simp only [Int.toNat_natCast, Int.toNat_one, List.length_take, List.length_cons, List.length_nil] at *; omega)))) ?_) | (refine Br.mk ?_ ?_ <;> intro hb <;> (try (first | (exfalso; omega) | exact absurd rfl hb | exact Bool.noConfusion hb | exact absurd (fun e => Bool.noConfusion e) hb | (exfalso; simp only [List.length_cons, List.length_nil] at hb; omega) | (exfalso; simp only [Int.toNat_natCast, Int.toNat_one, List.length_take, List.length_cons, List.length_nil] at hb; omega)))) | (refine XLoad.of (by assumption) rfl rfl (by omega) (by omega) rfl ?_) | (refine New.mk ?_; intro b hb) | (refine New2.mk ?_; intro b c hb hbc) | (refine SameR.same ?_) | (refine Two.mk ?_ ?_) | (refine ed_eql ?_) | (refine ed_neq ?_) | (refine drawn tysOk mixed (by kernel_rfl) ?_) | (apply CallK.pure; (case hh => (intro h1 hs; exact hRe _ (hA.grows hs.grows)))) | fail))); all_goals (try (conv => whnf)))
    exact ⟨fun h' hs => ⟨hs.grows, _, false, [], rfl, .nil, ⟨fun e => (by cases e), fun e => absurd e hr⟩, fun e => (by cases e)⟩⟩
set_option maxHeartbeats 4000000 in
set_option maxRecDepth 10000 in
theorem rtree_any (A : Option Addr) (len cap : Nat) (L : List Nd) (n : Int) (h : Heap) (hA : Sl ndR h A len L) (h2 : len ≤ 2000) :
    CallsH Try.prog 17 #[.slice A len cap, .int .i64 n] h fun v h' => v = denC (.prop (TreeP L n)) ∧ Grows h h' := by
  refine enter (rep := rep) (m := 12) (ex := []) (cu := []) tysOk Try.func17 rfl (by decide) (rs := [.tmp 4]) rfl rfl [.val (.slice A len cap), .val (.int .i64 n)] rfl ?_
  have hL := hA.len_eq
  ((repeat' ((conv => whnf); (first | (refine Ar.fit (by omega) ?_) | (refine VC.mk (by (first | omega | rfl | assumption | exact Sl.plain (by assumption) (by omega) | (and_intros <;> first | omega | rfl | assumption | (simp only [List.length_set]; omega) | (simp only [ByteArray.size_extract, ByteArray.size_append]; omega) | (simp only [List.length_cons, List.length_nil]; omega) | (simp only [Int.toNat_natCast, Int.toNat_one, List.length_take, List.length_cons, List.length_nil] at *; omega)))) ?_) | (refine Br.mk ?_ ?_ <;> intro hb <;> (try (first | (exfalso; omega) | exact absurd rfl hb | exact Bool.noConfusion hb | exact absurd (fun e => Bool.noConfusion e) hb | (exfalso; simp only [List.length_cons, List.length_nil] at hb; omega) | (exfalso; simp only [Int.toNat_natCast, Int.toNat_one, List.length_take, List.length_cons, List.length_nil] at hb; omega)))) | (refine XLoad.of (by assumption) rfl rfl (by omega) (by omega) rfl ?_) | (refine New.mk ?_; intro b hb) | (refine New2.mk ?_; intro b c hb hbc) | (refine SameR.same ?_) | (refine Two.mk ?_ ?_) | (refine ed_eql ?_) | (refine ed_neq ?_) | (refine drawn tysOk mixed (by kernel_rfl) ?_) | fail))); all_goals (try (conv => whnf)))
  refine CallK.epoch (fun h1 hq => ends_any A len cap L h1 (hA.grows hq.grows) h2) ?_
  rintro h1 u h3 hq ⟨hg, x, b, E, rfl, hX, hT, hF⟩
  obtain ⟨X, xl, xc, rfl, hE⟩ := hX.sl
  have hg0 := hq.grows.trans hg
  have hA2 := hA.grows hg0
  clear hX hq
  rcases b with _ | _
  · have hno : ¬ TreeP L n := fun h => (by cases hT.2 h.root)
    ((repeat' ((conv => whnf); (first | (refine Ar.fit (by omega) ?_) | (refine VC.mk (by (first | omega | rfl | assumption | exact Sl.plain (by assumption) (by omega) | (and_intros <;> first | omega | rfl | assumption | (simp only [List.length_set]; omega) | (simp only [ByteArray.size_extract, ByteArray.size_append]; omega) | (simp only [List.length_cons, List.length_nil]; omega) | (simp only [Int.toNat_natCast, Int.toNat_one, List.length_take, List.length_cons, List.length_nil] at *; omega)))) ?_) | (refine Br.mk ?_ ?_ <;> intro hb <;> (try (first | (exfalso; omega) | exact absurd rfl hb | exact Bool.noConfusion hb | exact absurd (fun e => Bool.noConfusion e) hb | (exfalso; simp only [List.length_cons, List.length_nil] at hb; omega) | (exfalso; simp only [Int.toNat_natCast, Int.toNat_one, List.length_take, List.length_cons, List.length_nil] at hb; omega)))) | (refine XLoad.of (by assumption) rfl rfl (by omega) (by omega) rfl ?_) | (refine New.mk ?_; intro b hb) | (refine New2.mk ?_; intro b c hb hbc) | (refine SameR.same ?_) | (refine Two.mk ?_ ?_) | (refine ed_eql ?_) | (refine ed_neq ?_) | (refine drawn tysOk mixed (by kernel_rfl) ?_) | fail))); all_goals (try (conv => whnf)))
    exact ⟨fun h' hs => ⟨by simp [den, den1, denC, hno], hg0.trans hs.grows⟩⟩
  have hr := hT.1 rfl
  have q1 := hF rfl
  have hiff := tree_iff (n := n) q1
  rw [hr.ends q1] at hiff
  have hxl := hE.len_eq
  have hl := q1.len
  have hr0 := hr.1
  ((repeat' ((conv => whnf); (first | (refine Ar.fit (by omega) ?_) | (refine VC.mk (by (first | omega | rfl | assumption | exact Sl.plain (by assumption) (by omega) | (and_intros <;> first | omega | rfl | assumption | (simp only [List.length_set]; omega) | (simp only [ByteArray.size_extract, ByteArray.size_append]; omega) | (simp only [List.length_cons, List.length_nil]; omega) | (simp only [Int.toNat_natCast, Int.toNat_one, List.length_take, List.length_cons, List.length_nil] at *; omega)))) ?_) | (refine Br.mk ?_ ?_ <;> intro hb <;> (try (first | (exfalso; omega) | exact absurd rfl hb | exact Bool.noConfusion hb | exact absurd (fun e => Bool.noConfusion e) hb | (exfalso; simp only [List.length_cons, List.length_nil] at hb; omega) | (exfalso; simp only [Int.toNat_natCast, Int.toNat_one, List.length_take, List.length_cons, List.length_nil] at hb; omega)))) | (refine XLoad.of (by assumption) rfl rfl (by omega) (by omega) rfl ?_) | (refine New.mk ?_; intro b hb) | (refine New2.mk ?_; intro b c hb hbc) | (refine SameR.same ?_) | (refine Two.mk ?_ ?_) | (refine ed_eql ?_) | (refine ed_neq ?_) | (refine drawn tysOk mixed (by kernel_rfl) ?_) | fail))); all_goals (try (conv => whnf)))
  refine loop_rule tysOk [7] (fun x : Int => [(7, .val (.int .i64 x))]) (fun x => []) (fun μ x => 0 ≤ x ∧ x ≤ len ∧ μ = (len - x).toNat ∧ ∀ j : Int, 0 ≤ j → j < x → lcP L n j ∧ Chain L E j (nd L j).c.toNat (j + 1) (nd L j).f) len 0 ?_
  conv => whnf
  refine ⟨by ((repeat (refine ⟨rfl, ?_⟩)); trivial), trivial, ⟨by simp, by simp, by simp, fun j h1 h2 => absurd h1 (by omega)⟩, ?_⟩
  rintro μ i ⟨a0, a1, a2, a3⟩
  by_cases hi : i < len
  · have hfail : ¬ (lcP L n i ∧ Chain L E i (nd L i).c.toNat (i + 1) (nd L i).f) → ¬ TreeP L n := fun hh ht => hh ((hiff.1 ht).2.2 i a0 (by omega))
    obtain ⟨n1, n2, _⟩ := hr.node i a0 (by omega)
    have hms := q1.at_ i a0 (by omega)
    have hle := q1.le i a0 (by omega)
    have hlf : ¬ lcP L n i → ¬ TreeP L n := fun hh => hfail fun h => hh h.1
    simp only [nd] at n1 n2
    have z1 : getI (intR .i64).dflt E i = getI 0 E i := rfl
    ((repeat' ((conv => whnf); (first | (refine Ar.fit (by omega) ?_) | (refine VC.mk (by (first | omega | rfl | assumption | exact Sl.plain (by assumption) (by omega) | (and_intros <;> first | omega | rfl | assumption | (simp only [List.length_set]; omega) | (simp only [ByteArray.size_extract, ByteArray.size_append]; omega) | (simp only [List.length_cons, List.length_nil]; omega) | (simp only [Int.toNat_natCast, Int.toNat_one, List.length_take, List.length_cons, List.length_nil] at *; omega)))) ?_) | (refine Br.mk ?_ ?_ <;> intro hb <;> (try (first | (exfalso; omega) | exact absurd rfl hb | exact Bool.noConfusion hb | exact absurd (fun e => Bool.noConfusion e) hb | (exfalso; simp only [List.length_cons, List.length_nil] at hb; omega) | (exfalso; simp only [Int.toNat_natCast, Int.toNat_one, List.length_take, List.length_cons, List.length_nil] at hb; omega)))) | (refine XLoad.of (by assumption) rfl rfl (by omega) (by omega) rfl ?_) | (refine New.mk ?_; intro b hb) | (refine New2.mk ?_; intro b c hb hbc) | (refine SameR.same ?_) | (refine Two.mk ?_ ?_) | (refine ed_eql ?_) | (refine ed_neq ?_) | (refine drawn tysOk mixed (by kernel_rfl) ?_) | fail))); all_goals (try (conv => whnf)))
    all_goals (try (exact ⟨fun h' hs => ⟨by (have hno := hlf (fun hl => by simp only [lcP, nd] at hl; omega)); simp [den, den1, denC, hno], hg0.trans hs.grows⟩⟩))
    all_goals
      have hlc : lcP L n i := by simp only [lcP, nd]; omega
      refine loop_rule tysOk [9, 10] (fun x : Int × Int => [(9, .val (.int .i64 x.1)), (10, .val (.int .i64 x.2))]) (fun x => [(8, b, .box 28 [.val (.int .u8 (getI ndR.dflt L i).k), .val (.int .i64 (getI ndR.dflt L i).c), .val (.int .i64 (getI ndR.dflt L i).w), .val (.int .i64 (getI ndR.dflt L i).f), .val (.int .i64 (getI ndR.dflt L i).t)])]) (fun μ x => 0 ≤ x.2 ∧ ∃ c : Int, Ms L x.2 c (getI 0 E i) ∧ (Chain L E i (nd L i).c.toNat (i + 1) (nd L i).f ↔ Chain L E i c.toNat x.2 x.1) ∧ μ = c.toNat) (nd L i).c.toNat ((getI ndR.dflt L i).f, i + 1) ?_
      conv => whnf
      refine ⟨by ((repeat (refine ⟨rfl, ?_⟩)); trivial), ⟨rfl, rfl, trivial⟩, ⟨by dsimp only; omega, _, hms, Iff.rfl, rfl⟩, ?_⟩
      rintro ν ⟨d, k⟩ ⟨b0, c, b1, b2, b3⟩
      dsimp only at b0 b1 b2 b3 ⊢
      have z2 : getI (intR .i64).dflt E k = getI 0 E k := rfl
      rcases b1.cases with ⟨g, ek⟩ | ⟨g1, g2, g3, g4, g5, m, g6, g7⟩
      · subst g
        have hch : Chain L E i (nd L i).c.toNat (i + 1) (nd L i).f := b2.2 trivial
        ((repeat' ((conv => whnf); (first | (refine Ar.fit (by omega) ?_) | (refine VC.mk (by (first | omega | rfl | assumption | exact Sl.plain (by assumption) (by omega) | (and_intros <;> first | omega | rfl | assumption | (simp only [List.length_set]; omega) | (simp only [ByteArray.size_extract, ByteArray.size_append]; omega) | (simp only [List.length_cons, List.length_nil]; omega) | (simp only [Int.toNat_natCast, Int.toNat_one, List.length_take, List.length_cons, List.length_nil] at *; omega)))) ?_) | (refine Br.mk ?_ ?_ <;> intro hb <;> (try (first | (exfalso; omega) | exact absurd rfl hb | exact Bool.noConfusion hb | exact absurd (fun e => Bool.noConfusion e) hb | (exfalso; simp only [List.length_cons, List.length_nil] at hb; omega) | (exfalso; simp only [Int.toNat_natCast, Int.toNat_one, List.length_take, List.length_cons, List.length_nil] at hb; omega)))) | (refine XLoad.of (by assumption) rfl rfl (by omega) (by omega) rfl ?_) | (refine New.mk ?_; intro b hb) | (refine New2.mk ?_; intro b c hb hbc) | (refine SameR.same ?_) | (refine Two.mk ?_ ?_) | (refine ed_eql ?_) | (refine ed_neq ?_) | (refine drawn tysOk mixed (by kernel_rfl) ?_) | fail))); all_goals (try (conv => whnf)))
        refine ⟨μ - 1, i + 1, ⟨by omega, by omega, by omega, fun j h1 h2 => ?_⟩, by omega, by ((repeat (refine ⟨rfl, ?_⟩)); trivial), rfl, rfl, trivial⟩
        by_cases hj : j = i
        · subst hj; exact ⟨hlc, hch⟩
        · exact a3 j h1 (by omega)
      · have hge := Kd.ge g6
        have hge2 := Kd.ge g7
        have he : getI 0 E k = m := (q1.at_ k g2 g3).uniq g6
        rw [show c.toNat = (c - 1).toNat + 1 by omega] at b2
        simp only [Chain] at b2
        have hf2 : ¬ pcP L i k d → ¬ TreeP L n := fun hh => hfail fun h => hh (b2.1 h.2).1
        have hf3 : (nd L k).t < (nd L k).f → ¬ TreeP L n := fun hh ht => by have := (hiff.1 ht).2.2 k g2 g3; simp only [lcP] at this; omega
        simp only [pcP, nd] at hf2
        simp only [nd] at hf3
        ((repeat' ((conv => whnf); (first | (refine Ar.fit (by omega) ?_) | (refine VC.mk (by (first | omega | rfl | assumption | exact Sl.plain (by assumption) (by omega) | (and_intros <;> first | omega | rfl | assumption | (simp only [List.length_set]; omega) | (simp only [ByteArray.size_extract, ByteArray.size_append]; omega) | (simp only [List.length_cons, List.length_nil]; omega) | (simp only [Int.toNat_natCast, Int.toNat_one, List.length_take, List.length_cons, List.length_nil] at *; omega)))) ?_) | (refine Br.mk ?_ ?_ <;> intro hb <;> (try (first | (exfalso; omega) | exact absurd rfl hb | exact Bool.noConfusion hb | exact absurd (fun e => Bool.noConfusion e) hb | (exfalso; simp only [List.length_cons, List.length_nil] at hb; omega) | (exfalso; simp only [Int.toNat_natCast, Int.toNat_one, List.length_take, List.length_cons, List.length_nil] at hb; omega)))) | (refine XLoad.of (by assumption) rfl rfl (by omega) (by omega) rfl ?_) | (refine New.mk ?_; intro b hb) | (refine New2.mk ?_; intro b c hb hbc) | (refine SameR.same ?_) | (refine Two.mk ?_ ?_) | (refine ed_eql ?_) | (refine ed_neq ?_) | (refine drawn tysOk mixed (by kernel_rfl) ?_) | fail))); all_goals (try (conv => whnf)))
        all_goals (try (exact ⟨fun h' hs => ⟨by (have hno : ¬ TreeP L n := (by first | exact hf3 (by assumption) | exact hf2 (fun hl => by omega))); simp [den, den1, denC, hno], hg0.trans hs.grows⟩⟩))
        all_goals
          refine ⟨ν - 1, ⟨(getI ndR.dflt L k).t, getI 0 E k⟩, ⟨by dsimp only; omega, c - 1, by dsimp only; rw [he]; exact g7, ?_, by omega⟩, by omega, by ((repeat (refine ⟨rfl, ?_⟩)); trivial), rfl, rfl, ⟨rfl, rfl, trivial⟩⟩
          refine b2.trans ⟨fun h => h.2, fun h => ⟨?_, h⟩⟩
          simp only [pcP, nd]; omega
  · have hyes : TreeP L n := hiff.2 ⟨by omega, rfl, fun j h1 h2 => a3 j h1 (by omega)⟩
    ((repeat' ((conv => whnf); (first | (refine Ar.fit (by omega) ?_) | (refine VC.mk (by (first | omega | rfl | assumption | exact Sl.plain (by assumption) (by omega) | (and_intros <;> first | omega | rfl | assumption | (simp only [List.length_set]; omega) | (simp only [ByteArray.size_extract, ByteArray.size_append]; omega) | (simp only [List.length_cons, List.length_nil]; omega) | (simp only [Int.toNat_natCast, Int.toNat_one, List.length_take, List.length_cons, List.length_nil] at *; omega)))) ?_) | (refine Br.mk ?_ ?_ <;> intro hb <;> (try (first | (exfalso; omega) | exact absurd rfl hb | exact Bool.noConfusion hb | exact absurd (fun e => Bool.noConfusion e) hb | (exfalso; simp only [List.length_cons, List.length_nil] at hb; omega) | (exfalso; simp only [Int.toNat_natCast, Int.toNat_one, List.length_take, List.length_cons, List.length_nil] at hb; omega)))) | (refine XLoad.of (by assumption) rfl rfl (by omega) (by omega) rfl ?_) | (refine New.mk ?_; intro b hb) | (refine New2.mk ?_; intro b c hb hbc) | (refine SameR.same ?_) | (refine Two.mk ?_ ?_) | (refine ed_eql ?_) | (refine ed_neq ?_) | (refine drawn tysOk mixed (by kernel_rfl) ?_) | fail))); all_goals (try (conv => whnf)))
    exact ⟨fun h' hs => ⟨by simp [den, den1, denC, hyes], hg0.trans hs.grows⟩⟩
end Go.Ex
