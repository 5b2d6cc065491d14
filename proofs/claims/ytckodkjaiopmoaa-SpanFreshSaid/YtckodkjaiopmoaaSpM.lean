/-
  Span: what the laws of Check, Apply and Move say.
-/
import Derived.Test.YtckodkjaiopmoaaSpL
namespace Go.Ex
open Go.Proofs
set_option linter.unusedVariables false

theorem bool_eql {p q : Prop} {κ : KV → Prop} (h : κ (.prop (p ↔ q))) : EqK Try.prog .eql 4 (.prop p) (.prop q) κ := ⟨_, fun u v w => by
  by_cases hp : p <;> by_cases hq : q <;> simp [den, den1, denC, eqGuard, binOp, hp, hq, run_equal_bool _ _ _ _ Try.underlying4], h⟩
theorem sum_of : ∀ (L : List Ed) (a : Int), a + total L ≤ 262144 → sumGo L a
  | [], a, _ => trivial
  | x :: r, a, h => by
    simp only [total] at h
    exact ⟨by omega, sum_of r _ (by omega)⟩
theorem back_size (s : ByteArray) (x : Ed) (r : List Ed) (h : chkGo s.size r x.t = 0) (hx : 0 ≤ x.f ∧ x.f ≤ x.t ∧ x.t ≤ s.size) : ((backF s (x :: r)).size : Int) = (backF s r).size + (x.s.size - (x.t - x.f)) := by
  have hlo := back_lo s r x.t h (by omega) (by omega)
  have e1 : backF s (x :: r) = step x (backF s r) := rfl
  rw [e1]
  simp only [step, ByteArray.size_append, ByteArray.size_extract]
  omega
theorem back_total (s : ByteArray) : ∀ (L : List Ed) (e : Int), chkGo s.size L e = 0 → 0 ≤ e → e ≤ s.size → e + total L ≤ (backF s L).size
  | [], e, _, _, h => by simp only [total, backF, List.foldr_nil]; omega
  | x :: r, e, h, he, hes => by
    simp only [chkGo] at h
    split at h
    · omega
    have ih := back_total s r x.t h (by omega) (by omega)
    have := back_size s x r h (by omega)
    simp only [total]
    omega
theorem fit_some (s : ByteArray) : ∀ (L : List Ed) (e n : Int), chkGo s.size L e = 0 → 0 ≤ e → e ≤ s.size → n + total L ≤ 262144 + s.size → n + ((backF s L).size - s.size) ≤ 65536 → (fitGo s.size L n).isSome
  | [], e, n, _, _, _, _, h => by
    simp only [backF, List.foldr_nil] at h
    simp only [fitGo]
    rw [if_neg (by omega)]; rfl
  | x :: r, e, n, h, he, hes, ht, hn => by
    simp only [chkGo] at h
    split at h
    · omega
    have := back_size s x r h (by omega)
    simp only [total] at ht
    simp only [fitGo]
    rw [if_neg (by omega)]
    exact fit_some s r x.t _ h (by omega) (by omega) (by omega) (by omega)
theorem fit_ed {s : ByteArray} {L : List Ed} (h1 : s.size ≤ 65536) (h2 : chkGo s.size L 0 = 0) : (fitGo s.size L s.size).isSome ↔ edOk s L := by
  have h3 := back_total s L 0 h2 (by omega) (by omega)
  constructor
  · intro h
    obtain ⟨N, hN⟩ := Option.isSome_iff_exists.1 h
    have h4 := fit_len s L 0 _ N h2 (by omega) (by omega) hN
    have h5 := fit_cap _ L _ N hN
    exact ⟨sum_of L _ (by omega), by omega⟩
  · rintro ⟨h4, h5⟩
    have h6 := sum_total L _ h4 (by omega)
    exact fit_some s L 0 _ h2 (by omega) (by omega) (by omega) (by omega)
/-- two ways to edit -/
theorem two_ways {s : ByteArray} {L : List Ed} (hS : ∀ x ∈ L, x.s.size ≤ 140737488355328) : rapT s L = appT s L ∧ rapE s L = fitE s L := by
  by_cases h1 : (65536 : Int) < s.size
  · have e1 : rapE s L = 2 := by rw [rapE, if_pos (by omega)]
    have e2 : fitE s L = 2 := by rw [fitE, if_pos h1]
    refine ⟨?_, by omega⟩
    rw [rapT, appT, if_neg (by omega), if_neg (by omega)]
  by_cases h2 : chkGo s.size L 0 = 0
  · have h2' : chk s.size L = 0 := by rw [chk_eq h1 (by omega)]; exact h2
    have e1 : rapE s L = @ite _ (edOk s L) (Classical.propDecidable _) 0 2 := by rw [rapE, if_neg (by omega), if_pos h2]
    have e2 : fitE s L = if (fitGo s.size L s.size).isSome then 0 else 2 := by rw [fitE, if_neg h1, if_pos h2']
    by_cases h3 : (fitGo s.size L s.size).isSome
    · have h4 : edOk s L := (fit_ed (by omega) h2).1 h3
      have e3 : rapE s L = 0 := by rw [e1, if_pos h4]
      have e4 : fitE s L = 0 := by rw [e2, if_pos h3]
      refine ⟨?_, by omega⟩
      rw [rapT, appT, if_pos e3, if_pos e4, edT, if_pos h4.1]
    · have h4 : ¬ edOk s L := fun h => h3 ((fit_ed (by omega) h2).2 h)
      have e3 : rapE s L = 2 := by rw [e1, if_neg h4]
      have e4 : fitE s L = 2 := by rw [e2, if_neg h3]
      refine ⟨?_, by omega⟩
      rw [rapT, appT, if_neg (by omega), if_neg (by omega)]
  · have h2' : ¬ chk s.size L = 0 := by rw [chk_eq h1 (by omega)]; exact h2
    have e1 : rapE s L = 13 := by rw [rapE, if_neg (by omega), if_neg h2]
    have e2 : fitE s L = 13 := by rw [fitE, if_neg h1, if_neg h2', chk_eq h1 (by omega)]; exact (chk_two s.size L 0).resolve_left h2
    refine ⟨?_, by omega⟩
    rw [rapT, appT, if_neg (by omega), if_neg (by omega)]
set_option maxRecDepth 10000 in
theorem checks_law (n : Int) (A : Option Addr) (len cap : Nat) (L : List Ed) (h : Heap) (hA : Sl edR h A len L) :
    CallsH Try.prog 3 #[.int .i64 n, .slice A len cap] h fun v h' => v = .bool true ∧ Grows h h' := by
  refine enter (rep := rep) (m := 5) (ex := []) (cu := []) tysOk Try.func3 rfl (by decide) (rs := [.tmp 4]) rfl rfl [.val (.int .i64 n), .val (.slice A len cap)] rfl ?_
  ((repeat' ((conv => whnf); (first | (refine Ar.fit (by omega) ?_) | (refine VC.mk (by (first | omega | rfl | assumption | exact Sl.plain (by assumption) (by omega) | (and_intros <;> first | omega | rfl | assumption | (simp only [List.length_set]; omega) | (simp only [ByteArray.size_extract, ByteArray.size_append]; omega) | (simp only [List.length_cons, List.length_nil]; omega) | (simp only [Int.toNat_natCast, Int.toNat_one, List.length_take, List.length_cons, List.length_nil] at *; omega)))) ?_) | (refine Br.mk ?_ ?_ <;> intro hb <;> (try (first | (exfalso; omega) | exact absurd rfl hb | exact Bool.noConfusion hb | exact absurd (fun e => Bool.noConfusion e) hb | (exfalso; simp only [List.length_cons, List.length_nil] at hb; omega) | (exfalso; simp only [Int.toNat_natCast, Int.toNat_one, List.length_take, List.length_cons, List.length_nil] at hb; omega)))) | (refine XLoad.of (by assumption) rfl rfl (by omega) (by omega) rfl ?_) | (refine New.mk ?_; intro b hb) | (refine New2.mk ?_; intro b c hb hbc) | (refine SameR.same ?_) | (refine Two.mk ?_ ?_) | (refine ed_eql ?_) | (refine ed_neq ?_) | (refine drawn tysOk mixed (by kernel_rfl) ?_) | (apply CallK.pure; (case hh => (intro h1 hs; exact fixed_any h1))) | (apply CallK.pure; (case hh => (intro h1 hs; exact check_any _ _ _ _ _ _ (hA.grows hs.grows)))) | (apply CallK.pure; (case hh => (intro h1 hs; exact rcheck_any _ _ _ _ _ _ (hA.grows hs.grows)))) | fail))); all_goals (try (conv => whnf)))
  exact ⟨fun h' hs' => ⟨prop_true rfl, hs'.grows⟩⟩
set_option maxRecDepth 10000 in
theorem applies_law (s : ByteArray) (A : Option Addr) (len cap : Nat) (L : List Ed) (h : Heap) (hA : Sl edR h A len L) (hs : s.size ≤ 140737488355328) (hS : ∀ x ∈ L, x.s.size ≤ 140737488355328) :
    CallsH Try.prog 4 #[.string s, .slice A len cap] h fun v h' => v = .bool true ∧ Grows h h' := by
  refine enter (rep := rep) (m := 9) (ex := []) (cu := []) tysOk Try.func4 rfl (by decide) (rs := [.tmp 4]) rfl rfl [.val (.string s), .val (.slice A len cap)] rfl ?_
  obtain ⟨t1, t2⟩ := two_ways (s := s) hS
  have hR := fun h hA => rapply_any s A len cap L h hA hS
  rw [t1, t2] at hR
  ((repeat' ((conv => whnf); (first | (refine Ar.fit (by omega) ?_) | (refine VC.mk (by (first | omega | rfl | assumption | exact Sl.plain (by assumption) (by omega) | (and_intros <;> first | omega | rfl | assumption | (simp only [List.length_set]; omega) | (simp only [ByteArray.size_extract, ByteArray.size_append]; omega) | (simp only [List.length_cons, List.length_nil]; omega) | (simp only [Int.toNat_natCast, Int.toNat_one, List.length_take, List.length_cons, List.length_nil] at *; omega)))) ?_) | (refine Br.mk ?_ ?_ <;> intro hb <;> (try (first | (exfalso; omega) | exact absurd rfl hb | exact Bool.noConfusion hb | exact absurd (fun e => Bool.noConfusion e) hb | (exfalso; simp only [List.length_cons, List.length_nil] at hb; omega) | (exfalso; simp only [Int.toNat_natCast, Int.toNat_one, List.length_take, List.length_cons, List.length_nil] at hb; omega)))) | (refine XLoad.of (by assumption) rfl rfl (by omega) (by omega) rfl ?_) | (refine New.mk ?_; intro b hb) | (refine New2.mk ?_; intro b c hb hbc) | (refine SameR.same ?_) | (refine Two.mk ?_ ?_) | (refine ed_eql ?_) | (refine ed_neq ?_) | (refine drawn tysOk mixed (by kernel_rfl) ?_) | (apply CallK.pure; (case hh => (intro h1 hs; exact fixed_any h1))) | (apply CallK.pure; (case hh => (intro h1 hs; exact apply_any _ _ _ _ _ _ (hA.grows hs.grows) (by assumption) hS))) | (apply CallK.pure; (case hh => (intro h1 hs; exact hR _ (hA.grows hs.grows)))) | fail))); all_goals (try (conv => whnf)))
  exact ⟨fun h' hs' => ⟨prop_true rfl, hs'.grows⟩⟩
set_option maxRecDepth 10000 in
theorem moves_law (n : Int) (A : Option Addr) (len cap : Nat) (L : List Ed) (p : Int) (h : Heap) (hA : Sl edR h A len L) (hS : ∀ x ∈ L, x.s.size ≤ 140737488355328) :
    CallsH Try.prog 5 #[.int .i64 n, .slice A len cap, .int .i64 p] h fun v h' => v = .bool true ∧ Grows h h' := by
  refine enter (rep := rep) (m := 11) (ex := []) (cu := []) tysOk Try.func5 rfl (by decide) (rs := [.tmp 6]) rfl rfl [.val (.int .i64 n), .val (.slice A len cap), .val (.int .i64 p)] rfl ?_
  ((repeat' ((conv => whnf); (first | (refine Ar.fit (by omega) ?_) | (refine VC.mk (by (first | omega | rfl | assumption | exact Sl.plain (by assumption) (by omega) | (and_intros <;> first | omega | rfl | assumption | (simp only [List.length_set]; omega) | (simp only [ByteArray.size_extract, ByteArray.size_append]; omega) | (simp only [List.length_cons, List.length_nil]; omega) | (simp only [Int.toNat_natCast, Int.toNat_one, List.length_take, List.length_cons, List.length_nil] at *; omega)))) ?_) | (refine Br.mk ?_ ?_ <;> intro hb <;> (try (first | (exfalso; omega) | exact absurd rfl hb | exact Bool.noConfusion hb | exact absurd (fun e => Bool.noConfusion e) hb | (exfalso; simp only [List.length_cons, List.length_nil] at hb; omega) | (exfalso; simp only [Int.toNat_natCast, Int.toNat_one, List.length_take, List.length_cons, List.length_nil] at hb; omega)))) | (refine XLoad.of (by assumption) rfl rfl (by omega) (by omega) rfl ?_) | (refine New.mk ?_; intro b hb) | (refine New2.mk ?_; intro b c hb hbc) | (refine SameR.same ?_) | (refine Two.mk ?_ ?_) | (refine ed_eql ?_) | (refine ed_neq ?_) | (refine drawn tysOk mixed (by kernel_rfl) ?_) | (apply CallK.pure; (case hh => (intro h1 hs; exact fixed_any h1))) | (apply CallK.pure; (case hh => (intro h1 hs; exact move_any _ _ _ _ _ _ _ (hA.grows hs.grows) hS))) | (apply CallK.pure; (case hh => (intro h1 hs; exact rmove_any _ _ _ _ _ _ _ (hA.grows hs.grows) hS))) | fail))); all_goals (try (conv => whnf)))
  refine bool_eql ?_
  conv => whnf
  exact ⟨fun h' hs' => ⟨prop_true Iff.rfl, hs'.grows⟩⟩
end Go.Ex
