/-
  Span: the law of Undo.
-/
import Derived.Test.YtckodkjaiopmoaaSpX
namespace Go.Ex
open Go.Proofs
set_option linter.unusedVariables false

set_option maxRecDepth 10000 in
theorem undoes_law (s : ByteArray) (A : Option Addr) (len cap : Nat) (L : List Ed) (h : Heap) (hA : Sl edR h A len L) (hs : s.size ≤ 140737488355328) (hS : ∀ x ∈ L, x.s.size ≤ 140737488355328) (hr : len * 32 ≤ 140737488355328) :
    CallsH Try.prog 6 #[.string s, .slice A len cap] h fun v h' => v = .bool true ∧ Grows h h' := by
  refine enter (rep := rep) (m := 14) (ex := []) (cu := []) tysOk Try.func6 rfl (by decide) (rs := [.tmp 4]) rfl rfl [.val (.string s), .val (.slice A len cap)] rfl ?_
  have hlen := hA.len_eq
  have hAp := fun h hA => apply_any s A len cap L h hA hs hS
  have hUn := fun h hA => undo_any s A len cap L h hA hs hS hr
  by_cases hE : fitE s L = 0
  · obtain ⟨f1, f2, f3, f4, f5, f6⟩ := undo_facts hE
    have hTs : (appT s L).size ≤ 65536 := by
      obtain ⟨z1, z2, N, z3, z4⟩ := fit_ok hE
      have hed : edOk s L := (fit_ed z1 z2).1 (by rw [z3]; rfl)
      rw [appT, if_pos hE]; exact hed.2
    have hUS : ∀ x ∈ undoL s L, x.s.size ≤ 140737488355328 := by
      intro x hx
      obtain ⟨i, hi, rfl⟩ := List.getElem_of_mem hx
      have := (f6 i (by omega)).2.1
      have e : (undoL s L).getD i edR.dflt = (undoL s L)[i] := by simp [List.getD, hi]
      rw [← e, this, ByteArray.size_extract]; omega
    rw [hE] at hAp hUn
    generalize appT s L = T at *
    generalize undoL s L = U at *
    ((repeat' ((conv => whnf); (first | (refine Ar.fit (by omega) ?_) | (refine VC.mk (by (first | omega | rfl | assumption | exact Sl.plain (by assumption) (by omega) | (and_intros <;> first | omega | rfl | assumption | (simp only [ByteArray.size_extract, ByteArray.size_append]; omega) | (simp only [List.length_cons, List.length_nil]; omega) | (simp only [Int.toNat_natCast, Int.toNat_one, List.length_take, List.length_cons, List.length_nil] at *; omega)))) ?_) | (refine Br.mk ?_ ?_ <;> intro hb <;> (try (first | (exfalso; omega) | exact absurd rfl hb | exact Bool.noConfusion hb | (exfalso; simp only [List.length_cons, List.length_nil] at hb; omega) | (exfalso; simp only [Int.toNat_natCast, Int.toNat_one, List.length_take, List.length_cons, List.length_nil] at hb; omega)))) | (refine XLoad.of (by assumption) rfl rfl (by omega) (by omega) rfl ?_) | (refine New.mk ?_; intro b hb) | (refine New2.mk ?_; intro b c hb) | (refine SameR.same ?_) | (refine Two.mk ?_ ?_) | (refine ed_eql ?_) | (refine ed_neq ?_) | (refine drawn tysOk mixed (by kernel_rfl) ?_) | (apply CallK.pure; (case hh => (intro h1 hs; exact fixed_any h1))) | (apply CallK.pure; (case hh => (intro h1 hs; exact hAp _ (hA.grows hs.grows)))) | fail))); all_goals (try (conv => whnf)))
    refine CallK.epoch (fun h1 hq => hUn h1 (hA.grows hq.grows)) ?_
    rintro h1 u h2 hq ⟨x, rfl, hX, hg⟩
    obtain ⟨B, bl, bc, rfl, hB⟩ := hX.sl
    have hA2 := hA.grows (hq.grows.trans hg)
    have hg0 := hq.grows.trans hg
    have hbl := hB.len_eq
    have hAp2 := fun h hB => apply_any T B bl bc U h hB (by omega) hUS
    have hUn2 := fun h hB => undo_any T B bl bc U h hB (by omega) hUS (by omega)
    rw [f1, f2] at hAp2
    rw [f1, f4] at hUn2
    have hCk := fun h hB => check_any B bl bc U T.size h hB
    rw [f3] at hCk
    clear hX hq
    ((repeat' ((conv => whnf); (first | (refine Ar.fit (by omega) ?_) | (refine VC.mk (by (first | omega | rfl | assumption | exact Sl.plain (by assumption) (by omega) | (and_intros <;> first | omega | rfl | assumption | (simp only [ByteArray.size_extract, ByteArray.size_append]; omega) | (simp only [List.length_cons, List.length_nil]; omega) | (simp only [Int.toNat_natCast, Int.toNat_one, List.length_take, List.length_cons, List.length_nil] at *; omega)))) ?_) | (refine Br.mk ?_ ?_ <;> intro hb <;> (try (first | (exfalso; omega) | exact absurd rfl hb | exact Bool.noConfusion hb | (exfalso; simp only [List.length_cons, List.length_nil] at hb; omega) | (exfalso; simp only [Int.toNat_natCast, Int.toNat_one, List.length_take, List.length_cons, List.length_nil] at hb; omega)))) | (refine XLoad.of (by assumption) rfl rfl (by omega) (by omega) rfl ?_) | (refine New.mk ?_; intro b hb) | (refine New2.mk ?_; intro b c hb) | (refine SameR.same ?_) | (refine Two.mk ?_ ?_) | (refine ed_eql ?_) | (refine ed_neq ?_) | (refine drawn tysOk mixed (by kernel_rfl) ?_) | (apply CallK.pure; (case hh => (intro h1 hs; exact hAp2 _ (hB.grows hs.grows)))) | (apply CallK.pure; (case hh => (intro h1 hs; exact hCk _ (hB.grows hs.grows)))) | fail))); all_goals (try (conv => whnf)))
    refine loop_rule tysOk [11] (fun x : Int => [(11, .val (.int .i64 x))]) (fun _ => []) (fun μ x => 0 ≤ x ∧ x + μ = bl) bl 0 ?_
    conv => whnf
    refine ⟨by ((repeat (refine ⟨rfl, ?_⟩)); trivial), trivial, ⟨by simp, by simp⟩, ?_⟩
    rintro μ i ⟨h0, h1⟩
    by_cases hi : i < bl
    · obtain ⟨g1, g2, g3, g4, g5⟩ := f6 i.toNat (by omega)
      have g1 : T.extract (getI edR.dflt U i).f.toNat (getI edR.dflt U i).t.toNat = (getI edR.dflt L i).s := g1
      have g2 : (getI edR.dflt U i).s = s.extract (getI edR.dflt L i).f.toNat (getI edR.dflt L i).t.toNat := g2
      have g3 : 0 ≤ (getI edR.dflt U i).f := g3
      have g4 : (getI edR.dflt U i).f ≤ (getI edR.dflt U i).t := g4
      have g5 : (getI edR.dflt U i).t ≤ T.size := g5
      have g6 := chk_mem s.size L 0 (fit_ok hE).2.1 (by omega) _ (getI_mem edR.dflt L i h0 (by omega))
      ((repeat' ((conv => whnf); (first | (refine Ar.fit (by omega) ?_) | (refine VC.mk (by (first | omega | rfl | assumption | exact Sl.plain (by assumption) (by omega) | (and_intros <;> first | omega | rfl | assumption | (simp only [ByteArray.size_extract, ByteArray.size_append]; omega) | (simp only [List.length_cons, List.length_nil]; omega) | (simp only [Int.toNat_natCast, Int.toNat_one, List.length_take, List.length_cons, List.length_nil] at *; omega)))) ?_) | (refine Br.mk ?_ ?_ <;> intro hb <;> (try (first | (exfalso; omega) | exact absurd rfl hb | exact Bool.noConfusion hb | (exfalso; simp only [List.length_cons, List.length_nil] at hb; omega) | (exfalso; simp only [Int.toNat_natCast, Int.toNat_one, List.length_take, List.length_cons, List.length_nil] at hb; omega)))) | (refine XLoad.of (by assumption) rfl rfl (by omega) (by omega) rfl ?_) | (refine New.mk ?_; intro b hb) | (refine New2.mk ?_; intro b c hb) | (refine SameR.same ?_) | (refine Two.mk ?_ ?_) | (refine ed_eql ?_) | (refine ed_neq ?_) | (refine drawn tysOk mixed (by kernel_rfl) ?_) | fail))); all_goals (try (conv => whnf)))
      · exact absurd g1 hb
      · exact absurd g2 hb
      refine ⟨μ - 1, i + 1, ⟨by omega, by omega⟩, by omega, ?_, rfl, rfl, trivial⟩
      ((repeat (refine ⟨rfl, ?_⟩)); trivial)
    · ((repeat' ((conv => whnf); (first | (refine Ar.fit (by omega) ?_) | (refine VC.mk (by (first | omega | rfl | assumption | exact Sl.plain (by assumption) (by omega) | (and_intros <;> first | omega | rfl | assumption | (simp only [ByteArray.size_extract, ByteArray.size_append]; omega) | (simp only [List.length_cons, List.length_nil]; omega) | (simp only [Int.toNat_natCast, Int.toNat_one, List.length_take, List.length_cons, List.length_nil] at *; omega)))) ?_) | (refine Br.mk ?_ ?_ <;> intro hb <;> (try (first | (exfalso; omega) | exact absurd rfl hb | exact Bool.noConfusion hb | (exfalso; simp only [List.length_cons, List.length_nil] at hb; omega) | (exfalso; simp only [Int.toNat_natCast, Int.toNat_one, List.length_take, List.length_cons, List.length_nil] at hb; omega)))) | (refine XLoad.of (by assumption) rfl rfl (by omega) (by omega) rfl ?_) | (refine New.mk ?_; intro b hb) | (refine New2.mk ?_; intro b c hb) | (refine SameR.same ?_) | (refine Two.mk ?_ ?_) | (refine ed_eql ?_) | (refine ed_neq ?_) | (refine drawn tysOk mixed (by kernel_rfl) ?_) | fail))); all_goals (try (conv => whnf)))
      refine CallK.epoch (fun h1 hq => hUn2 h1 (hB.grows hq.grows)) ?_
      rintro h3 u h4 hq3 ⟨x, rfl, hX3, hg3⟩
      obtain ⟨C, cl, cc, rfl, hC⟩ := hX3.sl
      have hA4 := hA2.grows (hq3.grows.trans hg3)
      have hg4 := hg0.trans (hq3.grows.trans hg3)
      ((repeat' ((conv => whnf); (first | (refine Ar.fit (by omega) ?_) | (refine VC.mk (by (first | omega | rfl | assumption | exact Sl.plain (by assumption) (by omega) | (and_intros <;> first | omega | rfl | assumption | (simp only [ByteArray.size_extract, ByteArray.size_append]; omega) | (simp only [List.length_cons, List.length_nil]; omega) | (simp only [Int.toNat_natCast, Int.toNat_one, List.length_take, List.length_cons, List.length_nil] at *; omega)))) ?_) | (refine Br.mk ?_ ?_ <;> intro hb <;> (try (first | (exfalso; omega) | exact absurd rfl hb | exact Bool.noConfusion hb | (exfalso; simp only [List.length_cons, List.length_nil] at hb; omega) | (exfalso; simp only [Int.toNat_natCast, Int.toNat_one, List.length_take, List.length_cons, List.length_nil] at hb; omega)))) | (refine XLoad.of (by assumption) rfl rfl (by omega) (by omega) rfl ?_) | (refine New.mk ?_; intro b hb) | (refine New2.mk ?_; intro b c hb) | (refine SameR.same ?_) | (refine Two.mk ?_ ?_) | (refine ed_eql ?_) | (refine ed_neq ?_) | (refine drawn tysOk mixed (by kernel_rfl) ?_) | (apply CallK.pure; (case hh => (intro h1 hs; exact (same_any _ _ _ _ _ _ _ _ _ (hC.grows hs.grows) (hA4.grows hs.grows)).mono (fun v h' ⟨e1, e2⟩ => ⟨e1.trans (prop_true rfl), e2⟩)))) | fail))); all_goals (try (conv => whnf)))
      exact ⟨fun h' hs' => ⟨prop_true rfl, hg4.trans hs'.grows⟩⟩
  · have e1 : appT s L = ⟨#[]⟩ := by rw [appT, if_neg hE]
    have e2 : undoL s L = [] := by rw [undoL, if_neg hE]
    rw [e1] at hAp
    rw [e2] at hUn
    ((repeat' ((conv => whnf); (first | (refine Ar.fit (by omega) ?_) | (refine VC.mk (by (first | omega | rfl | assumption | exact Sl.plain (by assumption) (by omega) | (and_intros <;> first | omega | rfl | assumption | (simp only [ByteArray.size_extract, ByteArray.size_append]; omega) | (simp only [List.length_cons, List.length_nil]; omega) | (simp only [Int.toNat_natCast, Int.toNat_one, List.length_take, List.length_cons, List.length_nil] at *; omega)))) ?_) | (refine Br.mk ?_ ?_ <;> intro hb <;> (try (first | (exfalso; omega) | exact absurd rfl hb | exact Bool.noConfusion hb | (exfalso; simp only [List.length_cons, List.length_nil] at hb; omega) | (exfalso; simp only [Int.toNat_natCast, Int.toNat_one, List.length_take, List.length_cons, List.length_nil] at hb; omega)))) | (refine XLoad.of (by assumption) rfl rfl (by omega) (by omega) rfl ?_) | (refine New.mk ?_; intro b hb) | (refine New2.mk ?_; intro b c hb) | (refine SameR.same ?_) | (refine Two.mk ?_ ?_) | (refine ed_eql ?_) | (refine ed_neq ?_) | (refine drawn tysOk mixed (by kernel_rfl) ?_) | (apply CallK.pure; (case hh => (intro h1 hs; exact fixed_any h1))) | (apply CallK.pure; (case hh => (intro h1 hs; exact hAp _ (hA.grows hs.grows)))) | fail))); all_goals (try (conv => whnf)))
    refine CallK.epoch (fun h1 hq => hUn h1 (hA.grows hq.grows)) ?_
    rintro h1 u h2 hq ⟨x, rfl, hX, hg⟩
    obtain ⟨B, bl, bc, rfl, hB⟩ := hX.sl
    have hg0 := hq.grows.trans hg
    have hbl : bl = 0 := hB.len_eq.symm
    subst hbl
    ((repeat' ((conv => whnf); (first | (refine Ar.fit (by omega) ?_) | (refine VC.mk (by (first | omega | rfl | assumption | exact Sl.plain (by assumption) (by omega) | (and_intros <;> first | omega | rfl | assumption | (simp only [ByteArray.size_extract, ByteArray.size_append]; omega) | (simp only [List.length_cons, List.length_nil]; omega) | (simp only [Int.toNat_natCast, Int.toNat_one, List.length_take, List.length_cons, List.length_nil] at *; omega)))) ?_) | (refine Br.mk ?_ ?_ <;> intro hb <;> (try (first | (exfalso; omega) | exact absurd rfl hb | exact Bool.noConfusion hb | (exfalso; simp only [List.length_cons, List.length_nil] at hb; omega) | (exfalso; simp only [Int.toNat_natCast, Int.toNat_one, List.length_take, List.length_cons, List.length_nil] at hb; omega)))) | (refine XLoad.of (by assumption) rfl rfl (by omega) (by omega) rfl ?_) | (refine New.mk ?_; intro b hb) | (refine New2.mk ?_; intro b c hb) | (refine SameR.same ?_) | (refine Two.mk ?_ ?_) | (refine ed_eql ?_) | (refine ed_neq ?_) | (refine drawn tysOk mixed (by kernel_rfl) ?_) | fail))); all_goals (try (conv => whnf)))
    exact ⟨fun h' hs' => ⟨prop_true rfl, hg0.trans hs'.grows⟩⟩
end Go.Ex
