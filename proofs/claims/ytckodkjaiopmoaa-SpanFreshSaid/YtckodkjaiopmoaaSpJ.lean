/-
  Span: Diff.
-/
import Derived.Test.YtckodkjaiopmoaaSpI
namespace Go.Ex
open Go.Proofs
set_option linter.unusedVariables false

noncomputable def diffF (a b : ByteArray) : Ed := @ite _ (a = b) (Classical.propDecidable _) ⟨0, 0, ⟨#[]⟩⟩ (trimF a ⟨0, a.size, b⟩)
set_option maxRecDepth 10000 in
theorem diff_any (a d : ByteArray) (h : Heap) (ha : a.size ≤ 140737488355328) (hB : d.size ≤ 140737488355328) :
    CallsH Try.prog 20 #[.string a, .string d] h fun v h' => v = .agg #[.int .i64 (diffF a d).f, .int .i64 (diffF a d).t, .string (diffF a d).s] ∧ Grows h h' := by
  refine enter (rep := rep) (m := 5) (ex := []) (cu := []) tysOk Try.func20 rfl (by decide) (rs := [.cell 4 36]) rfl rfl [.val (.string a), .val (.string d)] rfl ?_
  ((repeat' ((conv => whnf); (first | (refine Ar.fit (by omega) ?_) | (refine VC.mk (by (first | omega | rfl | assumption | exact Sl.plain (by assumption) (by omega) | (and_intros <;> first | omega | rfl | assumption | (simp only [List.length_set]; omega) | (simp only [ByteArray.size_extract, ByteArray.size_append]; omega) | (simp only [List.length_cons, List.length_nil]; omega) | (simp only [Int.toNat_natCast, Int.toNat_one, List.length_take, List.length_cons, List.length_nil] at *; omega)))) ?_) | (refine Br.mk ?_ ?_ <;> intro hb <;> (try (first | (exfalso; omega) | exact absurd rfl hb | exact Bool.noConfusion hb | exact absurd (fun e => Bool.noConfusion e) hb | (exfalso; simp only [List.length_cons, List.length_nil] at hb; omega) | (exfalso; simp only [Int.toNat_natCast, Int.toNat_one, List.length_take, List.length_cons, List.length_nil] at hb; omega)))) | (refine XLoad.of (by assumption) rfl rfl (by omega) (by omega) rfl ?_) | (refine New.mk ?_; intro b hb) | (refine New2.mk ?_; intro b c hb hbc) | (refine SameR.same ?_) | (refine Two.mk ?_ ?_) | (refine ed_eql ?_) | (refine ed_neq ?_) | (refine drawn tysOk mixed (by kernel_rfl) ?_) | (apply CallK.pure; (case hh => (intro h1 hs; exact trimmed_any a ⟨0, a.size, d⟩ h1 (by dsimp only; omega) ha hB))) | fail))); all_goals (try (conv => whnf)))
  · have e : diffF a d = ⟨0, 0, ⟨#[]⟩⟩ := if_pos (by assumption)
    rw [e]
    exact ⟨fun h' hs' => ⟨rfl, hs'.grows⟩⟩
  · have e : diffF a d = trimF a ⟨0, a.size, d⟩ := if_neg (by assumption)
    rw [e]
    exact ⟨fun h' hs' => ⟨rfl, hs'.grows⟩⟩
end Go.Ex
