/-
  Span: the law of what is left.
-/
import Derived.Test.YtckodkjaiopmoaaSpZ
namespace Go.Ex
open Go.Proofs
set_option linter.unusedVariables false

theorem sumGo_drop : ∀ (L : List Ed) (i : Nat) (a : Int), sumGo L a → a + total L ≤ 262144 → True := fun _ _ _ _ _ => trivial
theorem some_yes (n : Int) : denC (.prop ((some n : Option Int).isSome = true)) = .bool true := by simp [denC]
theorem none_no : denC (.prop ((none : Option Int).isSome = true)) = .bool false := by simp [denC]
theorem total_mem : ∀ (L : List Ed), ∀ x ∈ L, x.s.size ≤ total L
  | [], x, h => by simp at h
  | y :: r, x, h => by
    rcases List.mem_cons.1 h with rfl | h
    · simp only [total]; omega
    · have := total_mem r x h; simp only [total]; omega
set_option maxRecDepth 10000 in
theorem keeps_law (s : ByteArray) (A : Option Addr) (len cap : Nat) (L : List Ed) (h : Heap) (hA : Sl edR h A len L) (hs : s.size ≤ 140737488355328) (hS : ∀ x ∈ L, x.s.size ≤ 140737488355328) :
    CallsH Try.prog 7 #[.string s, .slice A len cap] h fun v h' => v = .bool true ∧ Grows h h' := by
  refine enter (rep := rep) (m := 16) (ex := [34, 71]) (cu := []) tysOk Try.func7 rfl (by decide) (rs := [.tmp 4]) rfl rfl [.val (.string s), .val (.slice A len cap)] rfl ?_
  have hlen := hA.len_eq
  have hsm := hA.small
  have hAp := fun h hA => apply_any s A len cap L h hA hs hS
  by_cases hE : fitE s L = 0
  · obtain ⟨f1, f2, f3, f4, f5, f6, _⟩ := keep_facts hE
    rw [hE] at hAp
    generalize appT s L = T at *
    have hMe := fun h hA => move_any A len cap L s.size s.size h hA hS
    rw [f2] at hMe
    have hw : optV (some (T.size : Int)) = T.size := by simp only [optV]; exact w64_in (by omega) (by omega)
    rw [hw, some_yes] at hMe
    by_cases h3 : (s.size : Int) > 3000
    · ((repeat' ((conv => whnf); (first | (refine Ar.fit (by omega) ?_) | (refine VC.mk (by (first | omega | rfl | assumption | exact Sl.plain (by assumption) (by omega) | (and_intros <;> first | omega | rfl | assumption | (simp only [ByteArray.size_extract, ByteArray.size_append]; omega) | (simp only [List.length_cons, List.length_nil]; omega) | (simp only [Int.toNat_natCast, Int.toNat_one, List.length_take, List.length_cons, List.length_nil] at *; omega)))) ?_) | (refine Br.mk ?_ ?_ <;> intro hb <;> (try (first | (exfalso; omega) | exact absurd rfl hb | exact Bool.noConfusion hb | exact absurd (fun e => Bool.noConfusion e) hb | (exfalso; simp only [List.length_cons, List.length_nil] at hb; omega) | (exfalso; simp only [Int.toNat_natCast, Int.toNat_one, List.length_take, List.length_cons, List.length_nil] at hb; omega)))) | (refine XLoad.of (by assumption) rfl rfl (by omega) (by omega) rfl ?_) | (refine New.mk ?_; intro b hb) | (refine New2.mk ?_; intro b c hb) | (refine SameR.same ?_) | (refine Two.mk ?_ ?_) | (refine ed_eql ?_) | (refine ed_neq ?_) | (refine drawn tysOk mixed (by kernel_rfl) ?_) | (apply CallK.pure; (case hh => (intro h1 hs; exact fixed_any h1))) | (apply CallK.pure; (case hh => (intro h1 hs; exact hAp _ (hA.grows hs.grows)))) | fail))); all_goals (try (conv => whnf)))
      exact ⟨fun h' hs' => ⟨rfl, hs'.grows⟩⟩
    · ((repeat' ((conv => whnf); (first | (refine Ar.fit (by omega) ?_) | (refine VC.mk (by (first | omega | rfl | assumption | exact Sl.plain (by assumption) (by omega) | (and_intros <;> first | omega | rfl | assumption | (simp only [ByteArray.size_extract, ByteArray.size_append]; omega) | (simp only [List.length_cons, List.length_nil]; omega) | (simp only [Int.toNat_natCast, Int.toNat_one, List.length_take, List.length_cons, List.length_nil] at *; omega)))) ?_) | (refine Br.mk ?_ ?_ <;> intro hb <;> (try (first | (exfalso; omega) | exact absurd rfl hb | exact Bool.noConfusion hb | exact absurd (fun e => Bool.noConfusion e) hb | (exfalso; simp only [List.length_cons, List.length_nil] at hb; omega) | (exfalso; simp only [Int.toNat_natCast, Int.toNat_one, List.length_take, List.length_cons, List.length_nil] at hb; omega)))) | (refine XLoad.of (by assumption) rfl rfl (by omega) (by omega) rfl ?_) | (refine New.mk ?_; intro b hb) | (refine New2.mk ?_; intro b c hb) | (refine SameR.same ?_) | (refine Two.mk ?_ ?_) | (refine ed_eql ?_) | (refine ed_neq ?_) | (refine drawn tysOk mixed (by kernel_rfl) ?_) | (apply CallK.pure; (case hh => (intro h1 hs; exact fixed_any h1))) | (apply CallK.pure; (case hh => (intro h1 hs; exact hAp _ (hA.grows hs.grows)))) | fail))); all_goals (try (conv => whnf)))
      refine loop_rule tysOk [7, 8, 9] (fun x : Int × Int × Int => [(7, .val (.int .i64 x.1)), (8, .val (.int .i64 x.2.1)), (9, .val (.int .i64 x.2.2))]) (fun _ => []) (fun μ x => 0 ≤ x.2.2 ∧ x.2.2 + μ = s.size ∧ x.2.1 = cntGo L 0 x.2.2 ∧ x.1 < cntGo L 0 x.2.2 + putGo L x.2.2 ∧ 0 ≤ x.2.1 ∧ x.2.1 ≤ x.2.2) s.size (-1, 0, 0) ?_
      conv => whnf
      refine ⟨by ((repeat (refine ⟨rfl, ?_⟩)); trivial), trivial, ⟨by simp, by simp, f4.symm, ?_, by simp, by simp⟩, ?_⟩
      · have := (put_mono 0 L).1; dsimp only; omega
      rintro μ ⟨last, left, i⟩ ⟨h0, h1, h2, h4, h5, h6⟩
      dsimp only at h0 h1 h2 h4 h5 h6 ⊢
      have hpm := put_mono i L
      by_cases hi : i < s.size
      · obtain ⟨g1, g2⟩ := f1 i h0 hi
        have hMv := fun h hA => move_any A len cap L s.size i h hA hS
        cases hm : mvF s.size L i with
        | none =>
          rw [hm] at hMv g2
          rw [none_no] at hMv
          have g3 : cntGo L 0 (i + 1) = cntGo L 0 i := by rcases g2 with ⟨_, g⟩ | ⟨g, _⟩; exact g; cases g
          ((repeat' ((conv => whnf); (first | (refine Ar.fit (by omega) ?_) | (refine VC.mk (by (first | omega | rfl | assumption | exact Sl.plain (by assumption) (by omega) | (and_intros <;> first | omega | rfl | assumption | (simp only [ByteArray.size_extract, ByteArray.size_append]; omega) | (simp only [List.length_cons, List.length_nil]; omega) | (simp only [Int.toNat_natCast, Int.toNat_one, List.length_take, List.length_cons, List.length_nil] at *; omega)))) ?_) | (refine Br.mk ?_ ?_ <;> intro hb <;> (try (first | (exfalso; omega) | exact absurd rfl hb | exact Bool.noConfusion hb | exact absurd (fun e => Bool.noConfusion e) hb | (exfalso; simp only [List.length_cons, List.length_nil] at hb; omega) | (exfalso; simp only [Int.toNat_natCast, Int.toNat_one, List.length_take, List.length_cons, List.length_nil] at hb; omega)))) | (refine XLoad.of (by assumption) rfl rfl (by omega) (by omega) rfl ?_) | (refine New.mk ?_; intro b hb) | (refine New2.mk ?_; intro b c hb) | (refine SameR.same ?_) | (refine Two.mk ?_ ?_) | (refine ed_eql ?_) | (refine ed_neq ?_) | (refine drawn tysOk mixed (by kernel_rfl) ?_) | (apply CallK.pure; (case hh => (intro h1 hs; exact hMv _ (hA.grows hs.grows)))) | fail))); all_goals (try (conv => whnf)))
          refine ⟨μ - 1, ⟨last, left, i + 1⟩, ⟨by dsimp only; omega, by dsimp only; omega, by dsimp only; omega, by dsimp only; omega, by dsimp only; omega, by dsimp only; omega⟩, by omega, ?_, rfl, rfl, trivial⟩
          ((repeat (refine ⟨rfl, ?_⟩)); trivial)
        | some to =>
          rw [hm] at hMv g2
          have g3 : cntGo L 0 (i + 1) = cntGo L 0 i + 1 := by rcases g2 with ⟨g, _⟩ | ⟨_, g⟩; cases g; exact g
          obtain ⟨k1, k2, k3, k4⟩ := g1 to hm
          have hw : optV (some to) = to := by simp only [optV]; exact w64_in (by omega) (by omega)
          rw [hw, some_yes] at hMv
          ((repeat' ((conv => whnf); (first | (refine Ar.fit (by omega) ?_) | (refine VC.mk (by (first | omega | rfl | assumption | exact Sl.plain (by assumption) (by omega) | (and_intros <;> first | omega | rfl | assumption | (simp only [ByteArray.size_extract, ByteArray.size_append]; omega) | (simp only [List.length_cons, List.length_nil]; omega) | (simp only [Int.toNat_natCast, Int.toNat_one, List.length_take, List.length_cons, List.length_nil] at *; omega)))) ?_) | (refine Br.mk ?_ ?_ <;> intro hb <;> (try (first | (exfalso; omega) | exact absurd rfl hb | exact Bool.noConfusion hb | exact absurd (fun e => Bool.noConfusion e) hb | (exfalso; simp only [List.length_cons, List.length_nil] at hb; omega) | (exfalso; simp only [Int.toNat_natCast, Int.toNat_one, List.length_take, List.length_cons, List.length_nil] at hb; omega)))) | (refine XLoad.of (by assumption) rfl rfl (by omega) (by omega) rfl ?_) | (refine New.mk ?_; intro b hb) | (refine New2.mk ?_; intro b c hb) | (refine SameR.same ?_) | (refine Two.mk ?_ ?_) | (refine ed_eql ?_) | (refine ed_neq ?_) | (refine drawn tysOk mixed (by kernel_rfl) ?_) | (apply CallK.pure; (case hh => (intro h1 hs; exact hMv _ (hA.grows hs.grows)))) | fail))); all_goals (try (conv => whnf)))
          refine ⟨μ - 1, ⟨to, left + 1, i + 1⟩, ⟨by dsimp only; omega, by dsimp only; omega, by dsimp only; omega, by dsimp only; omega, by dsimp only; omega, by dsimp only; omega⟩, by omega, ?_, rfl, rfl, trivial⟩
          ((repeat (refine ⟨rfl, ?_⟩)); trivial)
      · have hi : i = s.size := by omega
        subst hi
        ((repeat' ((conv => whnf); (first | (refine Ar.fit (by omega) ?_) | (refine VC.mk (by (first | omega | rfl | assumption | exact Sl.plain (by assumption) (by omega) | (and_intros <;> first | omega | rfl | assumption | (simp only [ByteArray.size_extract, ByteArray.size_append]; omega) | (simp only [List.length_cons, List.length_nil]; omega) | (simp only [Int.toNat_natCast, Int.toNat_one, List.length_take, List.length_cons, List.length_nil] at *; omega)))) ?_) | (refine Br.mk ?_ ?_ <;> intro hb <;> (try (first | (exfalso; omega) | exact absurd rfl hb | exact Bool.noConfusion hb | exact absurd (fun e => Bool.noConfusion e) hb | (exfalso; simp only [List.length_cons, List.length_nil] at hb; omega) | (exfalso; simp only [Int.toNat_natCast, Int.toNat_one, List.length_take, List.length_cons, List.length_nil] at hb; omega)))) | (refine XLoad.of (by assumption) rfl rfl (by omega) (by omega) rfl ?_) | (refine New.mk ?_; intro b hb) | (refine New2.mk ?_; intro b c hb) | (refine SameR.same ?_) | (refine Two.mk ?_ ?_) | (refine ed_eql ?_) | (refine ed_neq ?_) | (refine drawn tysOk mixed (by kernel_rfl) ?_) | fail))); all_goals (try (conv => whnf)))
        have htot := total_mem L
        have hT9 : total L ≤ T.size := by omega
        refine loop_rule tysOk [12, 13] (fun x : Int × Int => [(12, .val (.int .i64 x.1)), (13, .val (.int .i64 x.2))]) (fun _ => []) (fun μ x => 0 ≤ x.2 ∧ x.2 + μ = len ∧ 0 ≤ x.1 ∧ x.1 + total (L.drop x.2.toNat) = total L) len (0, 0) ?_
        conv => whnf
        refine ⟨by ((repeat (refine ⟨rfl, ?_⟩)); trivial), trivial, ⟨by simp, by simp, by simp, by simp⟩, ?_⟩
        rintro μ ⟨put, k⟩ ⟨k0, k1, k2, k3⟩
        dsimp only at k0 k1 k2 k3 ⊢
        by_cases hk : k < len
        · have hx := htot _ (getI_mem edR.dflt L k k0 (by omega))
          rw [drop_get edR.dflt L k k0 (by omega)] at k3
          simp only [total] at k3
          ((repeat' ((conv => whnf); (first | (refine Ar.fit (by omega) ?_) | (refine VC.mk (by (first | omega | rfl | assumption | exact Sl.plain (by assumption) (by omega) | (and_intros <;> first | omega | rfl | assumption | (simp only [ByteArray.size_extract, ByteArray.size_append]; omega) | (simp only [List.length_cons, List.length_nil]; omega) | (simp only [Int.toNat_natCast, Int.toNat_one, List.length_take, List.length_cons, List.length_nil] at *; omega)))) ?_) | (refine Br.mk ?_ ?_ <;> intro hb <;> (try (first | (exfalso; omega) | exact absurd rfl hb | exact Bool.noConfusion hb | exact absurd (fun e => Bool.noConfusion e) hb | (exfalso; simp only [List.length_cons, List.length_nil] at hb; omega) | (exfalso; simp only [Int.toNat_natCast, Int.toNat_one, List.length_take, List.length_cons, List.length_nil] at hb; omega)))) | (refine XLoad.of (by assumption) rfl rfl (by omega) (by omega) rfl ?_) | (refine New.mk ?_; intro b hb) | (refine New2.mk ?_; intro b c hb) | (refine SameR.same ?_) | (refine Two.mk ?_ ?_) | (refine ed_eql ?_) | (refine ed_neq ?_) | (refine drawn tysOk mixed (by kernel_rfl) ?_) | fail))); all_goals (try (conv => whnf)))
          refine ⟨μ - 1, ⟨put + (getI edR.dflt L k).s.size, k + 1⟩, ⟨by dsimp only; omega, by dsimp only; omega, by dsimp only; omega, by dsimp only; omega⟩, by omega, ?_, rfl, rfl, trivial⟩
          ((repeat (refine ⟨rfl, ?_⟩)); trivial)
        · rw [drop_all L k (by omega)] at k3
          simp only [total] at k3
          ((repeat' ((conv => whnf); (first | (refine Ar.fit (by omega) ?_) | (refine VC.mk (by (first | omega | rfl | assumption | exact Sl.plain (by assumption) (by omega) | (and_intros <;> first | omega | rfl | assumption | (simp only [ByteArray.size_extract, ByteArray.size_append]; omega) | (simp only [List.length_cons, List.length_nil]; omega) | (simp only [Int.toNat_natCast, Int.toNat_one, List.length_take, List.length_cons, List.length_nil] at *; omega)))) ?_) | (refine Br.mk ?_ ?_ <;> intro hb <;> (try (first | (exfalso; omega) | exact absurd rfl hb | exact Bool.noConfusion hb | exact absurd (fun e => Bool.noConfusion e) hb | (exfalso; simp only [List.length_cons, List.length_nil] at hb; omega) | (exfalso; simp only [Int.toNat_natCast, Int.toNat_one, List.length_take, List.length_cons, List.length_nil] at hb; omega)))) | (refine XLoad.of (by assumption) rfl rfl (by omega) (by omega) rfl ?_) | (refine New.mk ?_; intro b hb) | (refine New2.mk ?_; intro b c hb) | (refine SameR.same ?_) | (refine Two.mk ?_ ?_) | (refine ed_eql ?_) | (refine ed_neq ?_) | (refine drawn tysOk mixed (by kernel_rfl) ?_) | (apply CallK.pure; (case hh => (intro h1 hs; exact hMe _ (hA.grows hs.grows)))) | fail))); all_goals (try (conv => whnf)))
          exact ⟨fun h' hs' => ⟨prop_true (by omega), hs'.grows⟩⟩
  · ((repeat' ((conv => whnf); (first | (refine Ar.fit (by omega) ?_) | (refine VC.mk (by (first | omega | rfl | assumption | exact Sl.plain (by assumption) (by omega) | (and_intros <;> first | omega | rfl | assumption | (simp only [ByteArray.size_extract, ByteArray.size_append]; omega) | (simp only [List.length_cons, List.length_nil]; omega) | (simp only [Int.toNat_natCast, Int.toNat_one, List.length_take, List.length_cons, List.length_nil] at *; omega)))) ?_) | (refine Br.mk ?_ ?_ <;> intro hb <;> (try (first | (exfalso; omega) | exact absurd rfl hb | exact Bool.noConfusion hb | exact absurd (fun e => Bool.noConfusion e) hb | (exfalso; simp only [List.length_cons, List.length_nil] at hb; omega) | (exfalso; simp only [Int.toNat_natCast, Int.toNat_one, List.length_take, List.length_cons, List.length_nil] at hb; omega)))) | (refine XLoad.of (by assumption) rfl rfl (by omega) (by omega) rfl ?_) | (refine New.mk ?_; intro b hb) | (refine New2.mk ?_; intro b c hb) | (refine SameR.same ?_) | (refine Two.mk ?_ ?_) | (refine ed_eql ?_) | (refine ed_neq ?_) | (refine drawn tysOk mixed (by kernel_rfl) ?_) | (apply CallK.pure; (case hh => (intro h1 hs; exact fixed_any h1))) | (apply CallK.pure; (case hh => (intro h1 hs; exact hAp _ (hA.grows hs.grows)))) | fail))); all_goals (try (conv => whnf)))
    exact ⟨fun h' hs' => ⟨rfl, hs'.grows⟩⟩
end Go.Ex
