/-
  Span: what the reference's functions give.
-/
import Derived.Test.YtckodkjaiopmoaaSpA
namespace Go.Ex
open Go.Proofs
set_option linter.unusedVariables false

theorem ed_ext {x y : Ed} (h : x.f = y.f ∧ x.t = y.t ∧ x.s = y.s) : x = y := by
  obtain ⟨a, b, c⟩ := x; obtain ⟨d, e, f⟩ := y; simp only at h; obtain ⟨rfl, rfl, rfl⟩ := h; rfl
theorem chk_two (n : Int) : ∀ (L : List Ed) (e : Int), chkGo n L e = 0 ∨ chkGo n L e = 13
  | [], e => .inl rfl
  | x :: r, e => by
    simp only [chkGo]
    split
    · exact .inr rfl
    · exact chk_two n r x.t
set_option maxRecDepth 10000 in
theorem stand_any (A : Option Addr) (len cap : Nat) (L : List Ed) (n : Int) (h : Heap) (hA : Sl edR h A len L) :
    CallsH Try.prog 24 #[.int .i64 n, .slice A len cap] h fun v h' => v = denC (.prop (chkGo n L 0 = 0)) ∧ Grows h h' := by
  refine enter (rep := rep) (m := 6) (ex := []) (cu := []) tysOk Try.func24 rfl (by decide) (rs := [.tmp 4]) rfl rfl [.val (.int .i64 n), .val (.slice A len cap)] rfl ?_
  have hlen := hA.small
  have hL := hA.len_eq
  obtain ⟨r, hr⟩ : ∃ r, chkGo n L 0 = r := ⟨_, rfl⟩
  rw [hr]
  ((repeat' ((conv => whnf); (first | (refine Ar.fit (by omega) ?_) | (refine VC.mk (by (first | omega | rfl | assumption | exact Sl.plain (by assumption) (by omega) | (and_intros <;> first | omega | rfl | assumption | (simp only [List.length_set]; omega) | (simp only [ByteArray.size_extract, ByteArray.size_append]; omega) | (simp only [List.length_cons, List.length_nil]; omega) | (simp only [Int.toNat_natCast, Int.toNat_one, List.length_take, List.length_cons, List.length_nil] at *; omega)))) ?_) | (refine Br.mk ?_ ?_ <;> intro hb <;> (try (first | (exfalso; omega) | exact absurd rfl hb | exact Bool.noConfusion hb | exact absurd (fun e => Bool.noConfusion e) hb | (exfalso; simp only [List.length_cons, List.length_nil] at hb; omega) | (exfalso; simp only [Int.toNat_natCast, Int.toNat_one, List.length_take, List.length_cons, List.length_nil] at hb; omega)))) | (refine XLoad.of (by assumption) rfl rfl (by omega) (by omega) rfl ?_) | (refine New.mk ?_; intro b hb) | (refine New2.mk ?_; intro b c hb hbc) | (refine SameR.same ?_) | (refine Two.mk ?_ ?_) | (refine ed_eql ?_) | (refine ed_neq ?_) | (refine drawn tysOk mixed (by kernel_rfl) ?_) | fail))); all_goals (try (conv => whnf)))
  refine loop_rule tysOk [5] (fun i : Int => [(5, .val (.int .i64 i))]) (fun _ => []) (fun μ i => 0 ≤ i ∧ i + μ = len ∧ ∃ e, 0 ≤ e ∧ (i = 0 → e = 0) ∧ (0 < i → e = (getI edR.dflt L (i - 1)).t) ∧ chkGo n (L.drop i.toNat) e = r) len 0 ?_
  conv => whnf
  refine ⟨?_, trivial, ⟨by omega, by simp, 0, by omega, fun _ => rfl, fun h => absurd h (by omega), hr⟩, ?_⟩
  · ((repeat (refine ⟨rfl, ?_⟩)); trivial)
  rintro μ i ⟨h0, h1, e, he0, he1, he2, h2⟩
  dsimp only
  by_cases hi : i < len
  · rw [drop_get edR.dflt L i h0 (by omega)] at h2
    simp only [chkGo] at h2
    ((repeat' ((conv => whnf); (first | (refine Ar.fit (by omega) ?_) | (refine VC.mk (by (first | omega | rfl | assumption | exact Sl.plain (by assumption) (by omega) | (and_intros <;> first | omega | rfl | assumption | (simp only [List.length_set]; omega) | (simp only [ByteArray.size_extract, ByteArray.size_append]; omega) | (simp only [List.length_cons, List.length_nil]; omega) | (simp only [Int.toNat_natCast, Int.toNat_one, List.length_take, List.length_cons, List.length_nil] at *; omega)))) ?_) | (refine Br.mk ?_ ?_ <;> intro hb <;> (try (first | (exfalso; omega) | exact absurd rfl hb | exact Bool.noConfusion hb | exact absurd (fun e => Bool.noConfusion e) hb | (exfalso; simp only [List.length_cons, List.length_nil] at hb; omega) | (exfalso; simp only [Int.toNat_natCast, Int.toNat_one, List.length_take, List.length_cons, List.length_nil] at hb; omega)))) | (refine XLoad.of (by assumption) rfl rfl (by omega) (by omega) rfl ?_) | (refine New.mk ?_; intro b hb) | (refine New2.mk ?_; intro b c hb hbc) | (refine SameR.same ?_) | (refine Two.mk ?_ ?_) | (refine ed_eql ?_) | (refine ed_neq ?_) | (refine drawn tysOk mixed (by kernel_rfl) ?_) | fail))); all_goals (try (conv => whnf)))
    · rw [if_pos (by omega)] at h2; exact ⟨fun h' hs => ⟨bool_no (by omega), hs.grows⟩⟩
    · rw [if_pos (by omega)] at h2; exact ⟨fun h' hs => ⟨bool_no (by omega), hs.grows⟩⟩
    · rw [if_pos (by omega)] at h2; exact ⟨fun h' hs => ⟨bool_no (by omega), hs.grows⟩⟩
    · rw [if_pos (by have := he2 (by assumption); omega)] at h2; exact ⟨fun h' hs => ⟨bool_no (by omega), hs.grows⟩⟩
    all_goals
      rw [if_neg (by by_cases hz : 0 < i; have := he2 hz; omega; have := he1 (by omega); omega)] at h2
      refine ⟨μ - 1, i + 1, ⟨by omega, by omega, _, ?_, fun hz => absurd hz (by omega), fun _ => ?_, h2⟩, by omega, ?_, rfl, rfl, trivial⟩
      · by_cases hz : 0 < i
        · have := he2 hz; omega
        · have := he1 (by omega); omega
      · rw [show i + 1 - 1 = i by omega]
      · ((repeat (refine ⟨rfl, ?_⟩)); trivial)
  · rw [drop_all L i (by omega)] at h2
    ((repeat' ((conv => whnf); (first | (refine Ar.fit (by omega) ?_) | (refine VC.mk (by (first | omega | rfl | assumption | exact Sl.plain (by assumption) (by omega) | (and_intros <;> first | omega | rfl | assumption | (simp only [List.length_set]; omega) | (simp only [ByteArray.size_extract, ByteArray.size_append]; omega) | (simp only [List.length_cons, List.length_nil]; omega) | (simp only [Int.toNat_natCast, Int.toNat_one, List.length_take, List.length_cons, List.length_nil] at *; omega)))) ?_) | (refine Br.mk ?_ ?_ <;> intro hb <;> (try (first | (exfalso; omega) | exact absurd rfl hb | exact Bool.noConfusion hb | exact absurd (fun e => Bool.noConfusion e) hb | (exfalso; simp only [List.length_cons, List.length_nil] at hb; omega) | (exfalso; simp only [Int.toNat_natCast, Int.toNat_one, List.length_take, List.length_cons, List.length_nil] at hb; omega)))) | (refine XLoad.of (by assumption) rfl rfl (by omega) (by omega) rfl ?_) | (refine New.mk ?_; intro b hb) | (refine New2.mk ?_; intro b c hb hbc) | (refine SameR.same ?_) | (refine Two.mk ?_ ?_) | (refine ed_eql ?_) | (refine ed_neq ?_) | (refine drawn tysOk mixed (by kernel_rfl) ?_) | fail))); all_goals (try (conv => whnf)))
    exact ⟨fun h' hs => ⟨bool_yes h2.symm, hs.grows⟩⟩

set_option maxRecDepth 10000 in
theorem rcheck_any (A : Option Addr) (len cap : Nat) (L : List Ed) (n : Int) (h : Heap) (hA : Sl edR h A len L) :
    CallsH Try.prog 13 #[.int .i64 n, .slice A len cap] h fun v h' => v = .int .i64 (chk n L) ∧ Grows h h' := by
  refine enter (rep := rep) (m := 6) (ex := []) (cu := []) tysOk Try.func13 rfl (by decide) (rs := [.tmp 4]) rfl rfl [.val (.int .i64 n), .val (.slice A len cap)] rfl ?_
  have h2 := chk_two n L 0
  ((repeat' ((conv => whnf); (first | (refine Ar.fit (by omega) ?_) | (refine VC.mk (by (first | omega | rfl | assumption | exact Sl.plain (by assumption) (by omega) | (and_intros <;> first | omega | rfl | assumption | (simp only [List.length_set]; omega) | (simp only [ByteArray.size_extract, ByteArray.size_append]; omega) | (simp only [List.length_cons, List.length_nil]; omega) | (simp only [Int.toNat_natCast, Int.toNat_one, List.length_take, List.length_cons, List.length_nil] at *; omega)))) ?_) | (refine Br.mk ?_ ?_ <;> intro hb <;> (try (first | (exfalso; omega) | exact absurd rfl hb | exact Bool.noConfusion hb | exact absurd (fun e => Bool.noConfusion e) hb | (exfalso; simp only [List.length_cons, List.length_nil] at hb; omega) | (exfalso; simp only [Int.toNat_natCast, Int.toNat_one, List.length_take, List.length_cons, List.length_nil] at hb; omega)))) | (refine XLoad.of (by assumption) rfl rfl (by omega) (by omega) rfl ?_) | (refine New.mk ?_; intro b hb) | (refine New2.mk ?_; intro b c hb hbc) | (refine SameR.same ?_) | (refine Two.mk ?_ ?_) | (refine ed_eql ?_) | (refine ed_neq ?_) | (refine drawn tysOk mixed (by kernel_rfl) ?_) | (apply CallK.pure; (case hh => (intro h1 hs; exact stand_any _ _ _ _ _ _ (hA.grows hs.grows)))) | fail))); all_goals (try (conv => whnf)))
  · exact ⟨fun h' hs => ⟨int_eq (by unfold chk; rw [if_pos (by omega)]), hs.grows⟩⟩
  · exact ⟨fun h' hs => ⟨int_eq (by unfold chk; rw [if_pos (by omega)]), hs.grows⟩⟩
  · have := dec_not hb; exact ⟨fun h' hs => ⟨int_eq (by unfold chk; rw [if_neg (by omega)]; omega), hs.grows⟩⟩
  · have hb' : chkGo n L 0 = 0 := by simpa using hb
    exact ⟨fun h' hs => ⟨int_eq (by unfold chk; rw [if_neg (by omega)]; omega), hs.grows⟩⟩
set_option maxRecDepth 10000 in
theorem same_any (A A' : Option Addr) (len len' cap cap' : Nat) (L L' : List Ed) (h : Heap) (hA : Sl edR h A len L) (hA' : Sl edR h A' len' L') :
    CallsH Try.prog 19 #[.slice A len cap, .slice A' len' cap'] h fun v h' => v = denC (.prop (L = L')) ∧ Grows h h' := by
  refine enter (rep := rep) (m := 6) (ex := []) (cu := []) tysOk Try.func19 rfl (by decide) (rs := [.tmp 4]) rfl rfl [.val (.slice A len cap), .val (.slice A' len' cap')] rfl ?_
  have hlen := hA.small
  have hL := hA.len_eq
  have hL' := hA'.len_eq
  ((repeat' ((conv => whnf); (first | (refine Ar.fit (by omega) ?_) | (refine VC.mk (by (first | omega | rfl | assumption | exact Sl.plain (by assumption) (by omega) | (and_intros <;> first | omega | rfl | assumption | (simp only [List.length_set]; omega) | (simp only [ByteArray.size_extract, ByteArray.size_append]; omega) | (simp only [List.length_cons, List.length_nil]; omega) | (simp only [Int.toNat_natCast, Int.toNat_one, List.length_take, List.length_cons, List.length_nil] at *; omega)))) ?_) | (refine Br.mk ?_ ?_ <;> intro hb <;> (try (first | (exfalso; omega) | exact absurd rfl hb | exact Bool.noConfusion hb | exact absurd (fun e => Bool.noConfusion e) hb | (exfalso; simp only [List.length_cons, List.length_nil] at hb; omega) | (exfalso; simp only [Int.toNat_natCast, Int.toNat_one, List.length_take, List.length_cons, List.length_nil] at hb; omega)))) | (refine XLoad.of (by assumption) rfl rfl (by omega) (by omega) rfl ?_) | (refine New.mk ?_; intro b hb) | (refine New2.mk ?_; intro b c hb hbc) | (refine SameR.same ?_) | (refine Two.mk ?_ ?_) | (refine ed_eql ?_) | (refine ed_neq ?_) | (refine drawn tysOk mixed (by kernel_rfl) ?_) | fail))); all_goals (try (conv => whnf)))
  · exact ⟨fun h' hs => ⟨bool_no (fun e => by subst e; omega), hs.grows⟩⟩
  refine loop_rule tysOk [5] (fun i : Int => [(5, .val (.int .i64 i))]) (fun _ => []) (fun μ i => 0 ≤ i ∧ i + μ = len ∧ (L = L' ↔ L.drop i.toNat = L'.drop i.toNat)) len 0 ?_
  conv => whnf
  refine ⟨?_, trivial, ⟨by omega, by simp, by simp⟩, ?_⟩
  · ((repeat (refine ⟨rfl, ?_⟩)); trivial)
  rintro μ i ⟨h0, h1, h2⟩
  dsimp only
  by_cases hi : i < len
  · rw [drop_get edR.dflt L i h0 (by omega), drop_get edR.dflt L' i h0 (by omega), List.cons.injEq] at h2
    ((repeat' ((conv => whnf); (first | (refine Ar.fit (by omega) ?_) | (refine VC.mk (by (first | omega | rfl | assumption | exact Sl.plain (by assumption) (by omega) | (and_intros <;> first | omega | rfl | assumption | (simp only [List.length_set]; omega) | (simp only [ByteArray.size_extract, ByteArray.size_append]; omega) | (simp only [List.length_cons, List.length_nil]; omega) | (simp only [Int.toNat_natCast, Int.toNat_one, List.length_take, List.length_cons, List.length_nil] at *; omega)))) ?_) | (refine Br.mk ?_ ?_ <;> intro hb <;> (try (first | (exfalso; omega) | exact absurd rfl hb | exact Bool.noConfusion hb | exact absurd (fun e => Bool.noConfusion e) hb | (exfalso; simp only [List.length_cons, List.length_nil] at hb; omega) | (exfalso; simp only [Int.toNat_natCast, Int.toNat_one, List.length_take, List.length_cons, List.length_nil] at hb; omega)))) | (refine XLoad.of (by assumption) rfl rfl (by omega) (by omega) rfl ?_) | (refine New.mk ?_; intro b hb) | (refine New2.mk ?_; intro b c hb hbc) | (refine SameR.same ?_) | (refine Two.mk ?_ ?_) | (refine ed_eql ?_) | (refine ed_neq ?_) | (refine drawn tysOk mixed (by kernel_rfl) ?_) | fail))); all_goals (try (conv => whnf)))
    · exact ⟨fun h' hs => ⟨bool_no (fun e => hb (by have := (h2.1 e).1; rw [this]; exact ⟨rfl, rfl, rfl⟩)), hs.grows⟩⟩
    · have hb' := Classical.not_not.1 hb
      refine ⟨μ - 1, i + 1, ⟨by omega, by omega, h2.trans ⟨fun h => h.2, fun h => ⟨ed_ext hb', h⟩⟩⟩, by omega, ?_, rfl, rfl, trivial⟩
      ((repeat (refine ⟨rfl, ?_⟩)); trivial)
  · rw [drop_all L i (by omega), drop_all L' i (by omega)] at h2
    ((repeat' ((conv => whnf); (first | (refine Ar.fit (by omega) ?_) | (refine VC.mk (by (first | omega | rfl | assumption | exact Sl.plain (by assumption) (by omega) | (and_intros <;> first | omega | rfl | assumption | (simp only [List.length_set]; omega) | (simp only [ByteArray.size_extract, ByteArray.size_append]; omega) | (simp only [List.length_cons, List.length_nil]; omega) | (simp only [Int.toNat_natCast, Int.toNat_one, List.length_take, List.length_cons, List.length_nil] at *; omega)))) ?_) | (refine Br.mk ?_ ?_ <;> intro hb <;> (try (first | (exfalso; omega) | exact absurd rfl hb | exact Bool.noConfusion hb | exact absurd (fun e => Bool.noConfusion e) hb | (exfalso; simp only [List.length_cons, List.length_nil] at hb; omega) | (exfalso; simp only [Int.toNat_natCast, Int.toNat_one, List.length_take, List.length_cons, List.length_nil] at hb; omega)))) | (refine XLoad.of (by assumption) rfl rfl (by omega) (by omega) rfl ?_) | (refine New.mk ?_; intro b hb) | (refine New2.mk ?_; intro b c hb hbc) | (refine SameR.same ?_) | (refine Two.mk ?_ ?_) | (refine ed_eql ?_) | (refine ed_neq ?_) | (refine drawn tysOk mixed (by kernel_rfl) ?_) | fail))); all_goals (try (conv => whnf)))
    exact ⟨fun h' hs => ⟨bool_yes (h2.2 rfl), hs.grows⟩⟩
end Go.Ex
