/-
  Span: the reference's Trimmed.
-/
import Derived.Test.YtckodkjaiopmoaaSpF
namespace Go.Ex
open Go.Proofs
set_option linter.unusedVariables false

theorem byteI_extract (s : ByteArray) (i j : Nat) (k : Int) (h0 : 0 ≤ k) (h1 : k < (j : Int) - i) (h2 : j ≤ s.size) : byteI (s.extract i j) k = byteI s (i + k) := by
  rw [byteI_eq, byteI_eq, byl_extract]
  simp only [getI, List.getD, List.getElem?_drop]
  rw [List.getElem?_take_of_lt (by omega)]
  congr 2
  omega
theorem ext_ext (s : ByteArray) (i j a b : Nat) (hb : i + b ≤ j) : (s.extract i j).extract a b = s.extract (i + a) (i + b) := by
  refine byl_inj ?_
  simp only [byl_extract]
  rw [← List.drop_drop]
  congr 1
  rw [List.take_drop]
  congr 1
  rw [List.take_take]
  congr 1
  omega
set_option maxRecDepth 10000 in
theorem rtrimmed_any (s : ByteArray) (x : Ed) (h : Heap) (hx : 0 ≤ x.f ∧ x.f ≤ x.t ∧ x.t ≤ s.size) (hs : s.size ≤ 140737488355328) (hS : x.s.size ≤ 140737488355328) :
    CallsH Try.prog 21 #[.string s, .agg #[.int .i64 x.f, .int .i64 x.t, .string x.s]] h fun v h' => v = .agg #[.int .i64 (trimF s x).f, .int .i64 (trimF s x).t, .string (trimF s x).s] ∧ Grows h h' := by
  refine enter (rep := rep) (m := 5) (ex := []) (cu := []) tysOk Try.func21 rfl (by decide) (rs := [.cell 4 36]) rfl rfl [.val (.string s), .agg [.val (.int .i64 x.f), .val (.int .i64 x.t), .val (.string x.s)]] rfl ?_
  obtain ⟨f, t, u⟩ := x
  dsimp only at hx hS ⊢
  obtain ⟨o, ho⟩ : ∃ o, s.extract f.toNat t.toNat = o := ⟨_, rfl⟩
  have hol : (o.size : Int) = t - f := by rw [← ho, ByteArray.size_extract]; omega
  have hP := lcp_le (byl o) (byl u)
  rw [byl_len, byl_len] at hP
  obtain ⟨p, hp⟩ : ∃ p, trP o u = p := ⟨_, rfl⟩
  have hP' : p ≤ o.size ∧ p ≤ u.size := by rw [← hp]; exact hP
  obtain ⟨o1, ho1⟩ : ∃ o1, o.extract p o.size = o1 := ⟨_, rfl⟩
  obtain ⟨u1, hu1⟩ : ∃ u1, u.extract p u.size = u1 := ⟨_, rfl⟩
  have ho1l : o1.size = o.size - p := by rw [← ho1, ByteArray.size_extract]; omega
  have hu1l : u1.size = u.size - p := by rw [← hu1, ByteArray.size_extract]; omega
  obtain ⟨q, hq⟩ : ∃ q, lcp (byl o1).reverse (byl u1).reverse = q := ⟨_, rfl⟩
  have hT : trimF s ⟨f, t, u⟩ = ⟨f + p, t - q, u1.extract 0 (u1.size - q)⟩ := by
    simp only [trimF, ho, hp, trQ, ho1, hu1, hq]
  rw [hT]
  ((repeat' ((conv => whnf); (first | (refine Ar.fit (by omega) ?_) | (refine VC.mk (by (first | omega | rfl | assumption | exact Sl.plain (by assumption) (by omega) | (and_intros <;> first | omega | rfl | assumption | (simp only [List.length_set]; omega) | (simp only [ByteArray.size_extract, ByteArray.size_append]; omega) | (simp only [List.length_cons, List.length_nil]; omega) | (simp only [Int.toNat_natCast, Int.toNat_one, List.length_take, List.length_cons, List.length_nil] at *; omega)))) ?_) | (refine Br.mk ?_ ?_ <;> intro hb <;> (try (first | (exfalso; omega) | exact absurd rfl hb | exact Bool.noConfusion hb | exact absurd (fun e => Bool.noConfusion e) hb | (exfalso; simp only [List.length_cons, List.length_nil] at hb; omega) | (exfalso; simp only [Int.toNat_natCast, Int.toNat_one, List.length_take, List.length_cons, List.length_nil] at hb; omega)))) | (refine XLoad.of (by assumption) rfl rfl (by omega) (by omega) rfl ?_) | (refine New.mk ?_; intro b hb) | (refine New2.mk ?_; intro b c hb hbc) | (refine SameR.same ?_) | (refine Two.mk ?_ ?_) | (refine ed_eql ?_) | (refine ed_neq ?_) | (refine drawn tysOk mixed (by kernel_rfl) ?_) | fail))); all_goals (try (conv => whnf)))
  rename_i b3 hb3
  obtain ⟨b4, hb4⟩ : ∃ b4, b4 = b := ⟨_, rfl⟩
  subst hb4
  refine loop_cut tysOk [] (fun x : Int × ByteArray => []) (fun x => [(4, b4, .box 36 [.val (.int .i64 0), .val (.int .i64 0), .val (.string ⟨#[]⟩)]), (3, b3, .box 36 [.val (.int .i64 x.1), .val (.int .i64 t), .val (.string x.2)])])
    (fun μ x => ∃ k : Int, 0 ≤ k ∧ k + μ = o.size ∧ k ≤ u.size ∧ x.1 = f + k ∧ x.2 = u.extract k.toNat u.size ∧ k + lcp ((byl o).drop k.toNat) ((byl u).drop k.toNat) = p) o.size (f, u)
    (fun x : Int × ByteArray => []) (fun x => [(4, b4, .box 36 [.val (.int .i64 0), .val (.int .i64 0), .val (.string ⟨#[]⟩)]), (3, b3, .box 36 [.val (.int .i64 x.1), .val (.int .i64 t), .val (.string x.2)])]) (fun x => x.1 = f + p ∧ x.2 = u1) ?_
  conv => whnf
  refine ⟨?_, ?_, ⟨0, by omega, by omega, by omega, by simp, ?_, by simp [← hp, trP]⟩, ?_, ?_⟩
  · ((repeat (refine ⟨rfl, ?_⟩)); trivial)
  · exact ⟨rfl, rfl, rfl, rfl, trivial⟩
  · exact byl_inj (by rw [byl_extract]; simp [← byl_len])
  · rintro μ ⟨F, U⟩ ⟨k, h0, h1, hku, rfl, hU, h2⟩
    dsimp only at hU ⊢
    have hUl : (U.size : Int) = u.size - k := by rw [hU, ByteArray.size_extract]; omega
    rw [lcp_step _ _ _ h0, byl_len, byl_len, ← byteI_eq, ← byteI_eq] at h2
    by_cases hk : k < o.size ∧ k < u.size
    · have e1 := byteI_extract s f.toNat t.toNat k h0 (by omega) (by omega)
      have e2 := byteI_extract u k.toNat u.size 0 (by omega) (by omega) (by omega)
      rw [ho, show (f.toNat : Int) + k = f + k by omega] at e1
      rw [← hU, show ((k.toNat : Nat) : Int) + 0 = k by omega] at e2
      rw [e1, ← e2] at h2
      ((repeat' ((conv => whnf); (first | (refine Ar.fit (by omega) ?_) | (refine VC.mk (by (first | omega | rfl | assumption | exact Sl.plain (by assumption) (by omega) | (and_intros <;> first | omega | rfl | assumption | (simp only [List.length_set]; omega) | (simp only [ByteArray.size_extract, ByteArray.size_append]; omega) | (simp only [List.length_cons, List.length_nil]; omega) | (simp only [Int.toNat_natCast, Int.toNat_one, List.length_take, List.length_cons, List.length_nil] at *; omega)))) ?_) | (refine Br.mk ?_ ?_ <;> intro hb <;> (try (first | (exfalso; omega) | exact absurd rfl hb | exact Bool.noConfusion hb | exact absurd (fun e => Bool.noConfusion e) hb | (exfalso; simp only [List.length_cons, List.length_nil] at hb; omega) | (exfalso; simp only [Int.toNat_natCast, Int.toNat_one, List.length_take, List.length_cons, List.length_nil] at hb; omega)))) | (refine XLoad.of (by assumption) rfl rfl (by omega) (by omega) rfl ?_) | (refine New.mk ?_; intro b hb) | (refine New2.mk ?_; intro b c hb hbc) | (refine SameR.same ?_) | (refine Two.mk ?_ ?_) | (refine ed_eql ?_) | (refine ed_neq ?_) | (refine drawn tysOk mixed (by kernel_rfl) ?_) | fail))); all_goals (try (conv => whnf)))
      · rw [if_pos ⟨by omega, by omega, hb⟩] at h2
        refine ⟨μ - 1, (f + k + 1, U.extract (Int.toNat 1) (Int.toNat U.size)), ⟨k + 1, by omega, by omega, by omega, by simp only; omega, ?_, by omega⟩, by omega, ?_, rfl, rfl, ⟨rfl, rfl, rfl, rfl, trivial⟩⟩
        · dsimp only
          rw [hU, Int.toNat_natCast, ByteArray.size_extract, ext_ext _ _ _ _ _ (by omega)]
          congr 1 <;> omega
        · ((repeat (refine ⟨rfl, ?_⟩)); trivial)
      all_goals
        rw [if_neg (by omega)] at h2
        refine ⟨(f + k, U), ⟨by simp only; omega, ?_⟩, ?_, rfl, rfl, ⟨rfl, rfl, rfl, rfl, trivial⟩⟩
        · simp only; rw [hU, ← hu1]; congr 1; omega
        · ((repeat (refine ⟨rfl, ?_⟩)); trivial)
    · rw [if_neg (by omega)] at h2
      ((repeat' ((conv => whnf); (first | (refine Ar.fit (by omega) ?_) | (refine VC.mk (by (first | omega | rfl | assumption | exact Sl.plain (by assumption) (by omega) | (and_intros <;> first | omega | rfl | assumption | (simp only [List.length_set]; omega) | (simp only [ByteArray.size_extract, ByteArray.size_append]; omega) | (simp only [List.length_cons, List.length_nil]; omega) | (simp only [Int.toNat_natCast, Int.toNat_one, List.length_take, List.length_cons, List.length_nil] at *; omega)))) ?_) | (refine Br.mk ?_ ?_ <;> intro hb <;> (try (first | (exfalso; omega) | exact absurd rfl hb | exact Bool.noConfusion hb | exact absurd (fun e => Bool.noConfusion e) hb | (exfalso; simp only [List.length_cons, List.length_nil] at hb; omega) | (exfalso; simp only [Int.toNat_natCast, Int.toNat_one, List.length_take, List.length_cons, List.length_nil] at hb; omega)))) | (refine XLoad.of (by assumption) rfl rfl (by omega) (by omega) rfl ?_) | (refine New.mk ?_; intro b hb) | (refine New2.mk ?_; intro b c hb hbc) | (refine SameR.same ?_) | (refine Two.mk ?_ ?_) | (refine ed_eql ?_) | (refine ed_neq ?_) | (refine drawn tysOk mixed (by kernel_rfl) ?_) | fail))); all_goals (try (conv => whnf)))
      all_goals
        refine ⟨(f + k, U), ⟨by simp only; omega, ?_⟩, ?_, rfl, rfl, ⟨rfl, rfl, rfl, rfl, trivial⟩⟩
        · simp only; rw [hU, ← hu1]; congr 1; omega
        · ((repeat (refine ⟨rfl, ?_⟩)); trivial)
  · rintro ⟨F, U⟩ ⟨hF, hU⟩
    dsimp only at hF hU ⊢
    rw [hF, hU]
    ((repeat' ((conv => whnf); (first | (refine Ar.fit (by omega) ?_) | (refine VC.mk (by (first | omega | rfl | assumption | exact Sl.plain (by assumption) (by omega) | (and_intros <;> first | omega | rfl | assumption | (simp only [List.length_set]; omega) | (simp only [ByteArray.size_extract, ByteArray.size_append]; omega) | (simp only [List.length_cons, List.length_nil]; omega) | (simp only [Int.toNat_natCast, Int.toNat_one, List.length_take, List.length_cons, List.length_nil] at *; omega)))) ?_) | (refine Br.mk ?_ ?_ <;> intro hb <;> (try (first | (exfalso; omega) | exact absurd rfl hb | exact Bool.noConfusion hb | exact absurd (fun e => Bool.noConfusion e) hb | (exfalso; simp only [List.length_cons, List.length_nil] at hb; omega) | (exfalso; simp only [Int.toNat_natCast, Int.toNat_one, List.length_take, List.length_cons, List.length_nil] at hb; omega)))) | (refine XLoad.of (by assumption) rfl rfl (by omega) (by omega) rfl ?_) | (refine New.mk ?_; intro b hb) | (refine New2.mk ?_; intro b c hb hbc) | (refine SameR.same ?_) | (refine Two.mk ?_ ?_) | (refine ed_eql ?_) | (refine ed_neq ?_) | (refine drawn tysOk mixed (by kernel_rfl) ?_) | fail))); all_goals (try (conv => whnf)))
    have hq2 := lcp_le (byl o1).reverse (byl u1).reverse
    rw [hq, List.length_reverse, List.length_reverse, byl_len, byl_len] at hq2
    refine loop_cut tysOk [] (fun x : Int × ByteArray => []) (fun x => [(4, b4, .box 36 [.val (.int .i64 0), .val (.int .i64 0), .val (.string ⟨#[]⟩)]), (3, b3, .box 36 [.val (.int .i64 (f + p)), .val (.int .i64 x.1), .val (.string x.2)])])
      (fun μ x => ∃ k : Int, 0 ≤ k ∧ k + μ = o1.size ∧ k ≤ u1.size ∧ x.1 = t - k ∧ x.2 = u1.extract 0 (u1.size - k).toNat ∧ k + lcp ((byl o1).reverse.drop k.toNat) ((byl u1).reverse.drop k.toNat) = q) o1.size (t, u1)
      (fun x : Int × ByteArray => []) (fun x => [(4, b4, .box 36 [.val (.int .i64 0), .val (.int .i64 0), .val (.string ⟨#[]⟩)]), (3, b3, .box 36 [.val (.int .i64 (f + p)), .val (.int .i64 x.1), .val (.string x.2)])]) (fun x => x.1 = t - q ∧ x.2 = u1.extract 0 (u1.size - q)) ?_
    conv => whnf
    refine ⟨?_, ?_, ⟨0, by omega, by omega, by omega, by simp, ?_, by simp [← hq]⟩, ?_, ?_⟩
    · ((repeat (refine ⟨rfl, ?_⟩)); trivial)
    · exact ⟨rfl, rfl, rfl, rfl, trivial⟩
    · exact byl_inj (by rw [byl_extract]; simp [← byl_len])
    · rintro μ ⟨T, U⟩ ⟨k, h0, h1, hku, rfl, hU, h2⟩
      dsimp only at hU ⊢
      have hUl : (U.size : Int) = u1.size - k := by rw [hU, ByteArray.size_extract]; omega
      rw [lcp_step _ _ _ h0, List.length_reverse, List.length_reverse, byl_len, byl_len] at h2
      by_cases hk : k < o1.size ∧ k < u1.size
      · have e1 := get_rev (byl o1) k h0 (by rw [byl_len]; omega)
        have e2 := get_rev (byl u1) k h0 (by rw [byl_len]; omega)
        rw [byl_len, ← byteI_eq] at e1 e2
        have e3 := byteI_extract o p o.size (o1.size - 1 - k) (by omega) (by omega) (by omega)
        have e4 := byteI_extract s f.toNat t.toNat (p + (o1.size - 1 - k)) (by omega) (by omega) (by omega)
        have e5 := byteI_extract u1 0 (u1.size - k).toNat (u1.size - 1 - k) (by omega) (by omega) (by omega)
        rw [ho1] at e3
        rw [ho, show (f.toNat : Int) + (p + (o1.size - 1 - k)) = t - k - 1 by omega] at e4
        rw [← hU, show ((0 : Nat) : Int) + (u1.size - 1 - k) = u1.size - 1 - k by omega, show (u1.size : Int) - 1 - k = U.size - 1 by omega] at e5
        rw [show (u1.size : Int) - 1 - k = U.size - 1 by omega] at e2
        rw [← e1, ← e2, e3, e4, ← e5] at h2
        ((repeat' ((conv => whnf); (first | (refine Ar.fit (by omega) ?_) | (refine VC.mk (by (first | omega | rfl | assumption | exact Sl.plain (by assumption) (by omega) | (and_intros <;> first | omega | rfl | assumption | (simp only [List.length_set]; omega) | (simp only [ByteArray.size_extract, ByteArray.size_append]; omega) | (simp only [List.length_cons, List.length_nil]; omega) | (simp only [Int.toNat_natCast, Int.toNat_one, List.length_take, List.length_cons, List.length_nil] at *; omega)))) ?_) | (refine Br.mk ?_ ?_ <;> intro hb <;> (try (first | (exfalso; omega) | exact absurd rfl hb | exact Bool.noConfusion hb | exact absurd (fun e => Bool.noConfusion e) hb | (exfalso; simp only [List.length_cons, List.length_nil] at hb; omega) | (exfalso; simp only [Int.toNat_natCast, Int.toNat_one, List.length_take, List.length_cons, List.length_nil] at hb; omega)))) | (refine XLoad.of (by assumption) rfl rfl (by omega) (by omega) rfl ?_) | (refine New.mk ?_; intro b hb) | (refine New2.mk ?_; intro b c hb hbc) | (refine SameR.same ?_) | (refine Two.mk ?_ ?_) | (refine ed_eql ?_) | (refine ed_neq ?_) | (refine drawn tysOk mixed (by kernel_rfl) ?_) | fail))); all_goals (try (conv => whnf)))
        · rw [if_pos ⟨by omega, by omega, hb⟩] at h2
          refine ⟨μ - 1, (t - k - 1, U.extract (Int.toNat 0) (Int.toNat (U.size - 1))), ⟨k + 1, by omega, by omega, by omega, by simp only; omega, ?_, by omega⟩, by omega, ?_, rfl, rfl, ⟨rfl, rfl, rfl, rfl, trivial⟩⟩
          · dsimp only
            rw [hU, ByteArray.size_extract, ext_ext _ _ _ _ _ (by omega)]
            congr 1; omega
          · ((repeat (refine ⟨rfl, ?_⟩)); trivial)
        all_goals
          rw [if_neg (by omega)] at h2
          refine ⟨(t - k, U), ⟨by simp only; omega, ?_⟩, ?_, rfl, rfl, ⟨rfl, rfl, rfl, rfl, trivial⟩⟩
          · simp only; rw [hU]; congr 1; omega
          · ((repeat (refine ⟨rfl, ?_⟩)); trivial)
      · rw [if_neg (by omega)] at h2
        ((repeat' ((conv => whnf); (first | (refine Ar.fit (by omega) ?_) | (refine VC.mk (by (first | omega | rfl | assumption | exact Sl.plain (by assumption) (by omega) | (and_intros <;> first | omega | rfl | assumption | (simp only [List.length_set]; omega) | (simp only [ByteArray.size_extract, ByteArray.size_append]; omega) | (simp only [List.length_cons, List.length_nil]; omega) | (simp only [Int.toNat_natCast, Int.toNat_one, List.length_take, List.length_cons, List.length_nil] at *; omega)))) ?_) | (refine Br.mk ?_ ?_ <;> intro hb <;> (try (first | (exfalso; omega) | exact absurd rfl hb | exact Bool.noConfusion hb | exact absurd (fun e => Bool.noConfusion e) hb | (exfalso; simp only [List.length_cons, List.length_nil] at hb; omega) | (exfalso; simp only [Int.toNat_natCast, Int.toNat_one, List.length_take, List.length_cons, List.length_nil] at hb; omega)))) | (refine XLoad.of (by assumption) rfl rfl (by omega) (by omega) rfl ?_) | (refine New.mk ?_; intro b hb) | (refine New2.mk ?_; intro b c hb hbc) | (refine SameR.same ?_) | (refine Two.mk ?_ ?_) | (refine ed_eql ?_) | (refine ed_neq ?_) | (refine drawn tysOk mixed (by kernel_rfl) ?_) | fail))); all_goals (try (conv => whnf)))
        all_goals
          refine ⟨(t - k, U), ⟨by simp only; omega, ?_⟩, ?_, rfl, rfl, ⟨rfl, rfl, rfl, rfl, trivial⟩⟩
          · simp only; rw [hU]; congr 1; omega
          · ((repeat (refine ⟨rfl, ?_⟩)); trivial)
    · rintro ⟨T, U⟩ ⟨hF, hU⟩
      dsimp only at hF hU ⊢
      rw [hF, hU]
      ((repeat' ((conv => whnf); (first | (refine Ar.fit (by omega) ?_) | (refine VC.mk (by (first | omega | rfl | assumption | exact Sl.plain (by assumption) (by omega) | (and_intros <;> first | omega | rfl | assumption | (simp only [List.length_set]; omega) | (simp only [ByteArray.size_extract, ByteArray.size_append]; omega) | (simp only [List.length_cons, List.length_nil]; omega) | (simp only [Int.toNat_natCast, Int.toNat_one, List.length_take, List.length_cons, List.length_nil] at *; omega)))) ?_) | (refine Br.mk ?_ ?_ <;> intro hb <;> (try (first | (exfalso; omega) | exact absurd rfl hb | exact Bool.noConfusion hb | exact absurd (fun e => Bool.noConfusion e) hb | (exfalso; simp only [List.length_cons, List.length_nil] at hb; omega) | (exfalso; simp only [Int.toNat_natCast, Int.toNat_one, List.length_take, List.length_cons, List.length_nil] at hb; omega)))) | (refine XLoad.of (by assumption) rfl rfl (by omega) (by omega) rfl ?_) | (refine New.mk ?_; intro b hb) | (refine New2.mk ?_; intro b c hb hbc) | (refine SameR.same ?_) | (refine Two.mk ?_ ?_) | (refine ed_eql ?_) | (refine ed_neq ?_) | (refine drawn tysOk mixed (by kernel_rfl) ?_) | fail))); all_goals (try (conv => whnf)))
      exact ⟨fun h' hs' => ⟨rfl, hs'.grows⟩⟩
end Go.Ex
