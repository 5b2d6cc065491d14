/-
  Span: the law of Trim.
-/
import Derived.Test.YtckodkjaiopmoaaSpT
namespace Go.Ex
open Go.Proofs
set_option linter.unusedVariables false
set_option linter.unusedSimpArgs false

theorem trimGo_twice (s : ByteArray) : ∀ (L : List Ed) (e : Int), chkGo s.size L e = 0 → 0 ≤ e → trimGo s (trimGo s L) = trimGo s L
  | [], _, _, _ => rfl
  | x :: r, e, h, he => by
    simp only [chkGo] at h
    split at h
    · omega
    have hx : 0 ≤ x.f ∧ x.f ≤ x.t ∧ x.t ≤ s.size := by omega
    have ih := trimGo_twice s r x.t h (by omega)
    simp only [trimGo]
    split
    · exact ih
    · rename_i hn
      simp only [trimGo]
      rw [trimF_twice s x hx, if_neg hn, ih]
theorem fit_of {s : ByteArray} {L : List Ed} (h1 : s.size ≤ 65536) (h2 : chkGo s.size L 0 = 0) (h3 : edOk s L) : fitE s L = 0 := by
  have h4 := (fit_ed h1 h2).2 h3
  rw [fitE, if_neg (by omega), if_pos (by rw [chk_eq (by omega) (by omega)]; exact h2), if_pos h4]
theorem fit_trim {s : ByteArray} {L : List Ed} (h : fitE s L = 0) : fitE s (trimGo s L) = 0 ∧ appT s (trimGo s L) = appT s L ∧ trimE s (trimGo s L) = 0 ∧ trimL s (trimGo s L) = trimGo s L ∧ trimE s L = 0 ∧ trimL s L = trimGo s L := by
  obtain ⟨z1, z2, N, z3, z4⟩ := fit_ok h
  obtain ⟨b1, b2, b3⟩ := back_trim s L 0 z2 (by omega) (by omega)
  have hed : edOk s L := (fit_ed z1 z2).1 (by rw [z3]; rfl)
  have hsum := sum_total L _ hed.1 (by omega)
  have hed2 : edOk s (trimGo s L) := ⟨sum_of _ _ (by omega), by rw [b1]; exact hed.2⟩
  have hf := fit_of z1 b2 hed2
  have t1 : trimE s (trimGo s L) = 0 := by rw [trimE, if_neg (by omega)]; exact b2
  have t2 : trimE s L = 0 := by rw [trimE, if_neg (by omega)]; exact z2
  refine ⟨hf, ?_, t1, ?_, t2, ?_⟩
  · rw [appT, appT, if_pos hf, if_pos h, b1]
  · rw [trimL, if_pos t1, trimGo_twice s L 0 z2 (by omega)]
  · rw [trimL, if_pos t2]
theorem trimL_small (s : ByteArray) (L : List Ed) (h : ∀ x ∈ L, x.s.size ≤ 140737488355328) : (∀ x ∈ trimL s L, x.s.size ≤ 140737488355328) ∧ (trimL s L).length ≤ L.length := by
  have key : ∀ (L : List Ed) (e : Int), chkGo s.size L e = 0 → 0 ≤ e → (∀ x ∈ L, x.s.size ≤ 140737488355328) → (∀ x ∈ trimGo s L, x.s.size ≤ 140737488355328) ∧ (trimGo s L).length ≤ L.length := by
    intro L
    induction L with
    | nil => intro e _ _ _; exact ⟨by simp [trimGo], Nat.le_refl _⟩
    | cons x r ih =>
      intro e h he hS
      simp only [chkGo] at h
      split at h
      · omega
      have hx : 0 ≤ x.f ∧ x.f ≤ x.t ∧ x.t ≤ s.size := by omega
      obtain ⟨i1, i2⟩ := ih x.t h (by omega) (fun y hy => hS y (List.mem_cons_of_mem _ hy))
      have hle := trimF_le s x hx
      have hx2 := hS x List.mem_cons_self
      simp only [trimGo]
      split
      · exact ⟨i1, by rw [List.length_cons]; omega⟩
      · refine ⟨fun y hy => ?_, by rw [List.length_cons, List.length_cons]; omega⟩
        rcases List.mem_cons.1 hy with rfl | hy
        · omega
        · exact i1 y hy
  by_cases hE : trimE s L = 0
  · have := (trim_ok hE).2
    rw [trimL, if_pos hE]
    exact key L 0 this (by omega) h
  · rw [trimL, if_neg hE]
    exact ⟨by simp, Nat.zero_le _⟩
theorem OwnSl.slice {h h' : Heap} {v : Value} {L : List Ed} (ho : OwnSl edR 36 h h' v L) : ∃ A len cap, v = .slice A len cap ∧ Sl edR h' A len L := ho.sl
set_option maxRecDepth 10000 in
theorem trims_law (s : ByteArray) (A : Option Addr) (len cap : Nat) (L : List Ed) (h : Heap) (hA : Sl edR h A len L) (hs : s.size ≤ 140737488355328) (hS : ∀ x ∈ L, x.s.size ≤ 140737488355328) (hr : len * 32 ≤ 140737488355328) :
    CallsH Try.prog 9 #[.string s, .slice A len cap] h fun v h' => v = .bool true ∧ Grows h h' := by
  refine enter (rep := rep) (m := 15) (ex := []) (cu := []) tysOk Try.func9 rfl (by decide) (rs := [.tmp 4]) rfl rfl [.val (.string s), .val (.slice A len cap)] rfl ?_
  have hlen := hA.len_eq
  obtain ⟨m1, m2⟩ := trimL_small s L hS
  ((repeat' ((conv => whnf); (first | (refine Ar.fit (by omega) ?_) | (refine VC.mk (by (first | omega | rfl | assumption | exact Sl.plain (by assumption) (by omega) | (and_intros <;> first | omega | rfl | assumption | (simp only [List.length_set]; omega) | (simp only [List.length_append, List.length_take, List.length_replicate, List.length_cons, List.length_nil]; omega) | (simp only [ByteArray.size_extract, ByteArray.size_append]; omega) | (simp only [List.length_cons, List.length_nil]; omega) | (simp only [Int.toNat_natCast, Int.toNat_one, List.length_take, List.length_cons, List.length_nil] at *; omega)))) ?_) | (refine Br.mk ?_ ?_ <;> intro hb <;> (try (first | (exfalso; omega) | exact absurd rfl hb | exact Bool.noConfusion hb | exact absurd (fun e => Bool.noConfusion e) hb | (exfalso; simp only [List.length_cons, List.length_nil] at hb; omega) | (exfalso; simp only [Int.toNat_natCast, Int.toNat_one, List.length_take, List.length_cons, List.length_nil] at hb; omega)))) | (refine XLoad.of (by assumption) rfl rfl (by omega) (by omega) rfl ?_) | (refine New.mk ?_; intro b hb) | (refine New2.mk ?_; intro b c hb hbc) | (refine SameR.same ?_) | (refine Two.mk ?_ ?_) | (refine ed_eql ?_) | (refine ed_neq ?_) | (refine drawn tysOk mixed (by kernel_rfl) ?_) | fail))); all_goals (try (conv => whnf)))
  refine CallK.epoch (fun h1 hq => trim_any s A len cap L h1 (hA.grows hq.grows) hs hS hr) ?_
  rintro h1 u h2 hq ⟨x, rfl, hX, hg⟩
  obtain ⟨B, bl, bc, rfl, hB⟩ := hX.sl
  have hA2 := hA.grows (hq.grows.trans hg)
  have hg0 := hq.grows.trans hg
  ((repeat' ((conv => whnf); (first | (refine Ar.fit (by omega) ?_) | (refine VC.mk (by (first | omega | rfl | assumption | exact Sl.plain (by assumption) (by omega) | (and_intros <;> first | omega | rfl | assumption | (simp only [List.length_set]; omega) | (simp only [List.length_append, List.length_take, List.length_replicate, List.length_cons, List.length_nil]; omega) | (simp only [ByteArray.size_extract, ByteArray.size_append]; omega) | (simp only [List.length_cons, List.length_nil]; omega) | (simp only [Int.toNat_natCast, Int.toNat_one, List.length_take, List.length_cons, List.length_nil] at *; omega)))) ?_) | (refine Br.mk ?_ ?_ <;> intro hb <;> (try (first | (exfalso; omega) | exact absurd rfl hb | exact Bool.noConfusion hb | exact absurd (fun e => Bool.noConfusion e) hb | (exfalso; simp only [List.length_cons, List.length_nil] at hb; omega) | (exfalso; simp only [Int.toNat_natCast, Int.toNat_one, List.length_take, List.length_cons, List.length_nil] at hb; omega)))) | (refine XLoad.of (by assumption) rfl rfl (by omega) (by omega) rfl ?_) | (refine New.mk ?_; intro b hb) | (refine New2.mk ?_; intro b c hb hbc) | (refine SameR.same ?_) | (refine Two.mk ?_ ?_) | (refine ed_eql ?_) | (refine ed_neq ?_) | (refine drawn tysOk mixed (by kernel_rfl) ?_) | fail))); all_goals (try (conv => whnf)))
  refine CallK.epoch (fun h3 hq => rtrim_any s A len cap L h3 (hA2.grows hq.grows) hs hS hr) ?_
  rintro h3 u h4 hq3 ⟨x, rfl, hX3, hg3⟩
  obtain ⟨C, cl, cc, rfl, hC⟩ := hX3.sl
  have hA4 := hA2.grows (hq3.grows.trans hg3)
  have hB4 := hB.grows (hq3.grows.trans hg3)
  have hg4 := hg0.trans (hq3.grows.trans hg3)
  ((repeat' ((conv => whnf); (first | (refine Ar.fit (by omega) ?_) | (refine VC.mk (by (first | omega | rfl | assumption | exact Sl.plain (by assumption) (by omega) | (and_intros <;> first | omega | rfl | assumption | (simp only [List.length_set]; omega) | (simp only [List.length_append, List.length_take, List.length_replicate, List.length_cons, List.length_nil]; omega) | (simp only [ByteArray.size_extract, ByteArray.size_append]; omega) | (simp only [List.length_cons, List.length_nil]; omega) | (simp only [Int.toNat_natCast, Int.toNat_one, List.length_take, List.length_cons, List.length_nil] at *; omega)))) ?_) | (refine Br.mk ?_ ?_ <;> intro hb <;> (try (first | (exfalso; omega) | exact absurd rfl hb | exact Bool.noConfusion hb | exact absurd (fun e => Bool.noConfusion e) hb | (exfalso; simp only [List.length_cons, List.length_nil] at hb; omega) | (exfalso; simp only [Int.toNat_natCast, Int.toNat_one, List.length_take, List.length_cons, List.length_nil] at hb; omega)))) | (refine XLoad.of (by assumption) rfl rfl (by omega) (by omega) rfl ?_) | (refine New.mk ?_; intro b hb) | (refine New2.mk ?_; intro b c hb hbc) | (refine SameR.same ?_) | (refine Two.mk ?_ ?_) | (refine ed_eql ?_) | (refine ed_neq ?_) | (refine drawn tysOk mixed (by kernel_rfl) ?_) | (apply CallK.pure; (case hh => (intro h1 hs; exact fixed_any h1))) | (apply CallK.pure; (case hh => (intro h1 hs; exact (same_any _ _ _ _ _ _ _ _ _ (hB4.grows hs.grows) (hC.grows hs.grows)).mono (fun v h' ⟨e1, e2⟩ => ⟨e1.trans (prop_true rfl), e2⟩)))) | (apply CallK.pure; (case hh => (intro h1 hs; exact apply_any _ _ _ _ _ _ (hA4.grows hs.grows) (by assumption) hS))) | fail))); all_goals (try (conv => whnf)))
  · exact ⟨fun h' hs' => ⟨rfl, hg4.trans hs'.grows⟩⟩
  · exact ⟨fun h' hs' => ⟨rfl, hg4.trans hs'.grows⟩⟩
  have hF : fitE s L = 0 := Classical.not_not.1 hb
  obtain ⟨q1, q2, q3, q4, q5, q6⟩ := fit_trim hF
  have hAp := fun h hB => apply_any s B bl bc (trimL s L) h hB hs m1
  have hbl := hB.len_eq
  have hTr := fun h hB => trim_any s B bl bc (trimL s L) h hB hs m1 (by omega)
  rw [q6] at hAp hTr hB4
  rw [q1, q2] at hAp
  rw [q3, q4] at hTr
  ((repeat' ((conv => whnf); (first | (refine Ar.fit (by omega) ?_) | (refine VC.mk (by (first | omega | rfl | assumption | exact Sl.plain (by assumption) (by omega) | (and_intros <;> first | omega | rfl | assumption | (simp only [List.length_set]; omega) | (simp only [List.length_append, List.length_take, List.length_replicate, List.length_cons, List.length_nil]; omega) | (simp only [ByteArray.size_extract, ByteArray.size_append]; omega) | (simp only [List.length_cons, List.length_nil]; omega) | (simp only [Int.toNat_natCast, Int.toNat_one, List.length_take, List.length_cons, List.length_nil] at *; omega)))) ?_) | (refine Br.mk ?_ ?_ <;> intro hb <;> (try (first | (exfalso; omega) | exact absurd rfl hb | exact Bool.noConfusion hb | exact absurd (fun e => Bool.noConfusion e) hb | (exfalso; simp only [List.length_cons, List.length_nil] at hb; omega) | (exfalso; simp only [Int.toNat_natCast, Int.toNat_one, List.length_take, List.length_cons, List.length_nil] at hb; omega)))) | (refine XLoad.of (by assumption) rfl rfl (by omega) (by omega) rfl ?_) | (refine New.mk ?_; intro b hb) | (refine New2.mk ?_; intro b c hb hbc) | (refine SameR.same ?_) | (refine Two.mk ?_ ?_) | (refine ed_eql ?_) | (refine ed_neq ?_) | (refine drawn tysOk mixed (by kernel_rfl) ?_) | (apply CallK.pure; (case hh => (intro h1 hs; exact hAp _ (hB4.grows hs.grows)))) | fail))); all_goals (try (conv => whnf)))
  refine CallK.epoch (fun h5 hq => hTr h5 (hB4.grows hq.grows)) ?_
  rintro h5 u h6 hq5 ⟨x, rfl, hX5, hg5⟩
  obtain ⟨D, dl, dc, rfl, hD⟩ := hX5.sl
  have hB6 := hB4.grows (hq5.grows.trans hg5)
  have hg6 := hg4.trans (hq5.grows.trans hg5)
  ((repeat' ((conv => whnf); (first | (refine Ar.fit (by omega) ?_) | (refine VC.mk (by (first | omega | rfl | assumption | exact Sl.plain (by assumption) (by omega) | (and_intros <;> first | omega | rfl | assumption | (simp only [List.length_set]; omega) | (simp only [List.length_append, List.length_take, List.length_replicate, List.length_cons, List.length_nil]; omega) | (simp only [ByteArray.size_extract, ByteArray.size_append]; omega) | (simp only [List.length_cons, List.length_nil]; omega) | (simp only [Int.toNat_natCast, Int.toNat_one, List.length_take, List.length_cons, List.length_nil] at *; omega)))) ?_) | (refine Br.mk ?_ ?_ <;> intro hb <;> (try (first | (exfalso; omega) | exact absurd rfl hb | exact Bool.noConfusion hb | exact absurd (fun e => Bool.noConfusion e) hb | (exfalso; simp only [List.length_cons, List.length_nil] at hb; omega) | (exfalso; simp only [Int.toNat_natCast, Int.toNat_one, List.length_take, List.length_cons, List.length_nil] at hb; omega)))) | (refine XLoad.of (by assumption) rfl rfl (by omega) (by omega) rfl ?_) | (refine New.mk ?_; intro b hb) | (refine New2.mk ?_; intro b c hb hbc) | (refine SameR.same ?_) | (refine Two.mk ?_ ?_) | (refine ed_eql ?_) | (refine ed_neq ?_) | (refine drawn tysOk mixed (by kernel_rfl) ?_) | (apply CallK.pure; (case hh => (intro h1 hs; exact (same_any _ _ _ _ _ _ _ _ _ (hB6.grows hs.grows) (hD.grows hs.grows)).mono (fun v h' ⟨e1, e2⟩ => ⟨e1.trans (prop_true rfl), e2⟩)))) | fail))); all_goals (try (conv => whnf)))
  exact ⟨fun h' hs' => ⟨prop_true rfl, hg6.trans hs'.grows⟩⟩
end Go.Ex
