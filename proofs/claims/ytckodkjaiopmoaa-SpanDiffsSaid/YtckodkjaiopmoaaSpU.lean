/-
  Span: the law of Diff.
-/
import Derived.Test.YtckodkjaiopmoaaSpT
namespace Go.Ex
open Go.Proofs
set_option linter.unusedVariables false

/-- what a difference makes of the first text -/
theorem diff_ok (a d : ByteArray) : 0 ≤ (diffF a d).f ∧ (diffF a d).f ≤ (diffF a d).t ∧ (diffF a d).t ≤ a.size ∧ (diffF a d).s.size ≤ d.size ∧ step (diffF a d) a = d := by
  by_cases h : a = d
  · have e : diffF a d = ⟨0, 0, ⟨#[]⟩⟩ := if_pos h
    rw [e]
    exact ⟨by simp, by simp, by simp, Nat.zero_le _, (step_none a _ rfl rfl).trans h⟩
  · have e : diffF a d = trimF a ⟨0, a.size, d⟩ := if_neg h
    have hx : 0 ≤ (⟨0, a.size, d⟩ : Ed).f ∧ (⟨0, a.size, d⟩ : Ed).f ≤ (⟨0, a.size, d⟩ : Ed).t ∧ (⟨0, a.size, d⟩ : Ed).t ≤ a.size := by dsimp only; omega
    have h1 := trimF_le a ⟨0, a.size, d⟩ hx
    have h2 := trim_step a a ⟨0, a.size, d⟩ hx rfl (by dsimp only; omega)
    rw [e, h2]
    dsimp only at h1
    refine ⟨by omega, by omega, by omega, by omega, ?_⟩
    refine byl_inj ?_
    rw [byl_step]
    simp [byl_len]
set_option maxRecDepth 10000 in
theorem diffs_law (a d : ByteArray) (h : Heap) (ha : a.size ≤ 140737488355328) (hd : d.size ≤ 140737488355328) :
    CallsH Try.prog 8 #[.string a, .string d] h fun v h' => v = .bool true ∧ Grows h h' := by
  refine enter (rep := rep) (m := 6) (ex := []) (cu := []) tysOk Try.func8 rfl (by decide) (rs := [.tmp 4]) rfl rfl [.val (.string a), .val (.string d)] rfl ?_
  obtain ⟨d1, d2, d3, d4, d5⟩ := diff_ok a d
  have hD := fun h => diff_any a d h ha hd
  have hR := fun h => rtrimmed_any a ⟨0, a.size, d⟩ h (by dsimp only; omega) ha hd
  have e1 : a = d → diffF a d = ⟨0, 0, ⟨#[]⟩⟩ := fun h => if_pos h
  have e2 : ¬ a = d → diffF a d = trimF a ⟨0, a.size, d⟩ := fun h => if_neg h
  generalize diffF a d = Y at *
  obtain ⟨yf, yt, ys⟩ := Y
  dsimp only at d1 d2 d3 d4 d5 hD
  ((repeat' ((conv => whnf); (first | (refine Ar.fit (by omega) ?_) | (refine VC.mk (by (first | omega | rfl | assumption | exact Sl.plain (by assumption) (by omega) | (and_intros <;> first | omega | rfl | assumption | (simp only [ByteArray.size_extract, ByteArray.size_append]; omega) | (simp only [List.length_cons, List.length_nil]; omega) | (simp only [Int.toNat_natCast, Int.toNat_one, List.length_take, List.length_cons, List.length_nil] at *; omega)))) ?_) | (refine Br.mk ?_ ?_ <;> intro hb <;> (try (first | (exfalso; omega) | exact absurd rfl hb | exact Bool.noConfusion hb | (exfalso; simp only [List.length_cons, List.length_nil] at hb; omega) | (exfalso; simp only [Int.toNat_natCast, Int.toNat_one, List.length_take, List.length_cons, List.length_nil] at hb; omega)))) | (refine XLoad.of (by assumption) rfl rfl (by omega) (by omega) rfl ?_) | (refine New.mk ?_; intro b hb) | (refine New2.mk ?_; intro b c hb) | (refine SameR.same ?_) | (refine Two.mk ?_ ?_) | (refine ed_eql ?_) | (refine ed_neq ?_) | (refine drawn tysOk mixed (by kernel_rfl) ?_) | (apply CallK.pure; (case hh => (intro h1 hs; exact hD h1))) | (apply CallQ.pure; (case hh => (intro h1 hs; exact fixed_any h1))) | (apply CallQ.pure; (case hh => (intro h1 hs; exact hR h1))) | fail))); all_goals (try (conv => whnf)))
  · exact absurd d5 hb
  · have e := e1 (by assumption)
    cases e
    exact ⟨fun h' hs' => ⟨prop_true ⟨rfl, rfl, rfl⟩, hs'.grows⟩⟩
  · have e := e2 (by assumption)
    rw [← e]
    exact ⟨fun h' hs' => ⟨prop_true ⟨rfl, rfl, rfl⟩, hs'.grows⟩⟩
end Go.Ex
