/-
  Pick: ends of parts, walked.
-/
import Derived.Test.YtinelelkjbdaiaaPkH
namespace Go.Ex
open Go.Proofs
set_option linter.unusedVariables false
set_option linter.unusedSimpArgs false
attribute [local irreducible] CallsH

abbrev ptAt (L : List Pt) (i : Int) : Pt := getI partR.dflt L i
def kidsL (L : List Pt) : List Int := L.map Pt.kids
def endL (L : List Pt) (i : Int) : Int := if i < 0 then -1 else endG L.length ((kidsL L).drop i.toNat) 1 i
theorem kids_drop (L : List Pt) (i : Int) (h0 : 0 ≤ i) (h1 : i < L.length) : (kidsL L).drop i.toNat = (ptAt L i).kids :: (kidsL L).drop (i + 1).toNat := by
  have := drop_get partR.dflt L i h0 h1
  simp only [kidsL, ← List.map_drop]
  rw [this]
  rfl
theorem kids_all (L : List Pt) (i : Int) (h1 : ¬ i < L.length) : (kidsL L).drop i.toNat = [] := by
  rw [kidsL, ← List.map_drop, drop_all L i h1]; rfl
set_option maxHeartbeats 1000000 in
set_option maxRecDepth 10000 in
theorem rend_any (A : Option Addr) (n c : Nat) (L : List Pt) (i : Int) (h : Heap) (hL : Sl partR h A n L) (hn : n ≤ 300) (hi : i ≤ 1000) : CallsH Try.prog 15 #[.slice A n c, .int .i64 i] h fun v h' => v = .int .i64 (endL L i) ∧ Grows h h' := by
  refine enter (rep := rep) (m := 6) (ex := [7, 33]) (cu := []) tysOk Try.func15 rfl (by decide) (rs := [.tmp 4]) rfl rfl [.val (.slice A n c), .val (.int .i64 i)] rfl ?_
  have hlen := hL.len_eq
  ((repeat' ((conv => whnf); (first | (refine Ar.fit (by first | omega | (simp only [lo, hi]; omega)) ?_) | (refine VC.mk (by (first | omega | rfl | assumption | exact Sl.plain (by assumption) (by omega) | (and_intros <;> first | omega | rfl | assumption | (simp only [List.length_set]; omega) | (simp only [List.length_append, List.length_take, List.length_replicate, List.length_cons, List.length_nil]; omega) | (simp only [ByteArray.size_extract, ByteArray.size_append]; omega) | (simp only [List.length_cons, List.length_nil]; omega) | (simp only [Int.toNat_natCast, Int.toNat_one, List.length_take, List.length_cons, List.length_nil] at *; omega)))) ?_) | (refine Br.mk ?_ ?_ <;> intro hb <;> (try (first | (exfalso; omega) | exact absurd rfl hb | exact Bool.noConfusion hb | exact absurd (fun e => Bool.noConfusion e) hb | (exfalso; simp only [List.length_cons, List.length_nil] at hb; omega) | (exfalso; simp only [Int.toNat_natCast, Int.toNat_one, List.length_take, List.length_cons, List.length_nil] at hb; omega)))) | (refine XLoad.of (by assumption) rfl rfl (by omega) (by omega) rfl ?_) | (refine New.mk ?_; intro b hb) | (refine New2.mk ?_; intro b c hb hbc) | (refine NewO.mk ?_; intro b c hb hbc) | (refine SameR.same ?_) | (refine Two.mk ?_ ?_) | (refine Tri.mk ?_ ?_ ?_) | (refine ed_eql ?_) | (refine ed_neq ?_) | (refine drawn tysOk mixed (by kernel_rfl) ?_) | fail))); all_goals (try (conv => whnf)))
  by_cases hneg : i < 0
  · have e : endL L i = -1 := by rw [endL, if_pos hneg]
    rw [e]
    refine loop_rule tysOk [1, 5] (fun x : Int × Int => [(1, .val (.int .i64 i)), (5, .val (.int .i64 1))]) (fun x => []) (fun μ x => True) 0 (0, 0) ?_
    conv => whnf
    refine ⟨by ((repeat (refine ⟨rfl, ?_⟩)); trivial), trivial, trivial, ?_⟩
    rintro μ x -
    ((repeat' ((conv => whnf); (first | (refine Ar.fit (by first | omega | (simp only [lo, hi]; omega)) ?_) | (refine VC.mk (by (first | omega | rfl | assumption | exact Sl.plain (by assumption) (by omega) | (and_intros <;> first | omega | rfl | assumption | (simp only [List.length_set]; omega) | (simp only [List.length_append, List.length_take, List.length_replicate, List.length_cons, List.length_nil]; omega) | (simp only [ByteArray.size_extract, ByteArray.size_append]; omega) | (simp only [List.length_cons, List.length_nil]; omega) | (simp only [Int.toNat_natCast, Int.toNat_one, List.length_take, List.length_cons, List.length_nil] at *; omega)))) ?_) | (refine Br.mk ?_ ?_ <;> intro hb <;> (try (first | (exfalso; omega) | exact absurd rfl hb | exact Bool.noConfusion hb | exact absurd (fun e => Bool.noConfusion e) hb | (exfalso; simp only [List.length_cons, List.length_nil] at hb; omega) | (exfalso; simp only [Int.toNat_natCast, Int.toNat_one, List.length_take, List.length_cons, List.length_nil] at hb; omega)))) | (refine XLoad.of (by assumption) rfl rfl (by omega) (by omega) rfl ?_) | (refine New.mk ?_; intro b hb) | (refine New2.mk ?_; intro b c hb hbc) | (refine NewO.mk ?_; intro b c hb hbc) | (refine SameR.same ?_) | (refine Two.mk ?_ ?_) | (refine Tri.mk ?_ ?_ ?_) | (refine ed_eql ?_) | (refine ed_neq ?_) | (refine drawn tysOk mixed (by kernel_rfl) ?_) | fail))); all_goals (try (conv => whnf)))
    all_goals exact ⟨fun h' hs => ⟨rfl, hs.grows⟩⟩
  · have e : endL L i = endG L.length ((kidsL L).drop i.toNat) 1 i := by rw [endL, if_neg hneg]
    rw [e]
    obtain ⟨E, hE⟩ : ∃ E, E = endG L.length ((kidsL L).drop i.toNat) 1 i := ⟨_, rfl⟩
    rw [← hE]
    refine loop_rule tysOk [1, 5] (fun x : Int × Int => [(1, .val (.int .i64 x.1)), (5, .val (.int .i64 x.2))]) (fun x => []) (fun μ x => 0 ≤ x.1 ∧ x.1 ≤ 1000 ∧ 0 ≤ x.2 ∧ x.2 ≤ 1 + 300 * x.1 ∧ μ = (1000 - x.1).toNat ∧ endG L.length ((kidsL L).drop x.1.toNat) x.2 x.1 = E) (1000 - i).toNat (i, 1) ?_
    conv => whnf
    refine ⟨by ((repeat (refine ⟨rfl, ?_⟩)); trivial), trivial, ⟨by dsimp only; omega, hi, by simp, by dsimp only; omega, rfl, hE.symm⟩, ?_⟩
    rintro μ ⟨j, d⟩ ⟨a0, a1, a2, a3, a4, a5⟩
    dsimp only at a0 a1 a2 a3 a4 a5 ⊢
    by_cases hd : 0 < d
    · by_cases hj : j < L.length
      · rw [kids_drop L j a0 hj] at a5
        simp only [endG] at a5
        rw [if_pos hd] at a5
        obtain ⟨k, hk⟩ : ∃ k, k = (ptAt L j).kids := ⟨_, rfl⟩
        rw [← hk] at a5
        have hk' : (getI partR.dflt L j).kids = k := hk.symm
        by_cases hb : k < 0 ∨ (L.length : Int) < k
        · rw [if_pos hb] at a5
          subst a5
          ((repeat' ((conv => whnf); (first | (refine Ar.fit (by first | omega | (simp only [lo, hi]; omega)) ?_) | (refine VC.mk (by (first | omega | rfl | assumption | exact Sl.plain (by assumption) (by omega) | (and_intros <;> first | omega | rfl | assumption | (simp only [List.length_set]; omega) | (simp only [List.length_append, List.length_take, List.length_replicate, List.length_cons, List.length_nil]; omega) | (simp only [ByteArray.size_extract, ByteArray.size_append]; omega) | (simp only [List.length_cons, List.length_nil]; omega) | (simp only [Int.toNat_natCast, Int.toNat_one, List.length_take, List.length_cons, List.length_nil] at *; omega)))) ?_) | (refine Br.mk ?_ ?_ <;> intro hb <;> (try (first | (exfalso; omega) | exact absurd rfl hb | exact Bool.noConfusion hb | exact absurd (fun e => Bool.noConfusion e) hb | (exfalso; simp only [List.length_cons, List.length_nil] at hb; omega) | (exfalso; simp only [Int.toNat_natCast, Int.toNat_one, List.length_take, List.length_cons, List.length_nil] at hb; omega)))) | (refine XLoad.of (by assumption) rfl rfl (by omega) (by omega) rfl ?_) | (refine New.mk ?_; intro b hb) | (refine New2.mk ?_; intro b c hb hbc) | (refine NewO.mk ?_; intro b c hb hbc) | (refine SameR.same ?_) | (refine Two.mk ?_ ?_) | (refine Tri.mk ?_ ?_ ?_) | (refine ed_eql ?_) | (refine ed_neq ?_) | (refine drawn tysOk mixed (by kernel_rfl) ?_) | fail))); all_goals (try (conv => whnf)))
          all_goals exact ⟨fun h' hs => ⟨rfl, hs.grows⟩⟩
        · rw [if_neg hb] at a5
          ((repeat' ((conv => whnf); (first | (refine Ar.fit (by first | omega | (simp only [lo, hi]; omega)) ?_) | (refine VC.mk (by (first | omega | rfl | assumption | exact Sl.plain (by assumption) (by omega) | (and_intros <;> first | omega | rfl | assumption | (simp only [List.length_set]; omega) | (simp only [List.length_append, List.length_take, List.length_replicate, List.length_cons, List.length_nil]; omega) | (simp only [ByteArray.size_extract, ByteArray.size_append]; omega) | (simp only [List.length_cons, List.length_nil]; omega) | (simp only [Int.toNat_natCast, Int.toNat_one, List.length_take, List.length_cons, List.length_nil] at *; omega)))) ?_) | (refine Br.mk ?_ ?_ <;> intro hb <;> (try (first | (exfalso; omega) | exact absurd rfl hb | exact Bool.noConfusion hb | exact absurd (fun e => Bool.noConfusion e) hb | (exfalso; simp only [List.length_cons, List.length_nil] at hb; omega) | (exfalso; simp only [Int.toNat_natCast, Int.toNat_one, List.length_take, List.length_cons, List.length_nil] at hb; omega)))) | (refine XLoad.of (by assumption) rfl rfl (by omega) (by omega) rfl ?_) | (refine New.mk ?_; intro b hb) | (refine New2.mk ?_; intro b c hb hbc) | (refine NewO.mk ?_; intro b c hb hbc) | (refine SameR.same ?_) | (refine Two.mk ?_ ?_) | (refine Tri.mk ?_ ?_ ?_) | (refine ed_eql ?_) | (refine ed_neq ?_) | (refine drawn tysOk mixed (by kernel_rfl) ?_) | fail))); all_goals (try (conv => whnf)))
          refine ⟨_, (j + 1, d - 1 + (getI partR.dflt L j).kids), ⟨by dsimp only; omega, by dsimp only; omega, by dsimp only; omega, by dsimp only; omega, rfl, by dsimp only; rw [hk']; exact a5⟩, by dsimp only; omega, by ((repeat (refine ⟨rfl, ?_⟩)); trivial), rfl, rfl, trivial⟩
      · rw [kids_all L j hj] at a5
        simp only [endG] at a5
        rw [if_pos hd] at a5
        subst a5
        ((repeat' ((conv => whnf); (first | (refine Ar.fit (by first | omega | (simp only [lo, hi]; omega)) ?_) | (refine VC.mk (by (first | omega | rfl | assumption | exact Sl.plain (by assumption) (by omega) | (and_intros <;> first | omega | rfl | assumption | (simp only [List.length_set]; omega) | (simp only [List.length_append, List.length_take, List.length_replicate, List.length_cons, List.length_nil]; omega) | (simp only [ByteArray.size_extract, ByteArray.size_append]; omega) | (simp only [List.length_cons, List.length_nil]; omega) | (simp only [Int.toNat_natCast, Int.toNat_one, List.length_take, List.length_cons, List.length_nil] at *; omega)))) ?_) | (refine Br.mk ?_ ?_ <;> intro hb <;> (try (first | (exfalso; omega) | exact absurd rfl hb | exact Bool.noConfusion hb | exact absurd (fun e => Bool.noConfusion e) hb | (exfalso; simp only [List.length_cons, List.length_nil] at hb; omega) | (exfalso; simp only [Int.toNat_natCast, Int.toNat_one, List.length_take, List.length_cons, List.length_nil] at hb; omega)))) | (refine XLoad.of (by assumption) rfl rfl (by omega) (by omega) rfl ?_) | (refine New.mk ?_; intro b hb) | (refine New2.mk ?_; intro b c hb hbc) | (refine NewO.mk ?_; intro b c hb hbc) | (refine SameR.same ?_) | (refine Two.mk ?_ ?_) | (refine Tri.mk ?_ ?_ ?_) | (refine ed_eql ?_) | (refine ed_neq ?_) | (refine drawn tysOk mixed (by kernel_rfl) ?_) | fail))); all_goals (try (conv => whnf)))
        all_goals exact ⟨fun h' hs => ⟨rfl, hs.grows⟩⟩
    · have hd0 : d = 0 := by omega
      subst hd0
      have : E = j := by
        rw [← a5]
        cases (kidsL L).drop j.toNat <;> simp [endG]
      subst this
      ((repeat' ((conv => whnf); (first | (refine Ar.fit (by first | omega | (simp only [lo, hi]; omega)) ?_) | (refine VC.mk (by (first | omega | rfl | assumption | exact Sl.plain (by assumption) (by omega) | (and_intros <;> first | omega | rfl | assumption | (simp only [List.length_set]; omega) | (simp only [List.length_append, List.length_take, List.length_replicate, List.length_cons, List.length_nil]; omega) | (simp only [ByteArray.size_extract, ByteArray.size_append]; omega) | (simp only [List.length_cons, List.length_nil]; omega) | (simp only [Int.toNat_natCast, Int.toNat_one, List.length_take, List.length_cons, List.length_nil] at *; omega)))) ?_) | (refine Br.mk ?_ ?_ <;> intro hb <;> (try (first | (exfalso; omega) | exact absurd rfl hb | exact Bool.noConfusion hb | exact absurd (fun e => Bool.noConfusion e) hb | (exfalso; simp only [List.length_cons, List.length_nil] at hb; omega) | (exfalso; simp only [Int.toNat_natCast, Int.toNat_one, List.length_take, List.length_cons, List.length_nil] at hb; omega)))) | (refine XLoad.of (by assumption) rfl rfl (by omega) (by omega) rfl ?_) | (refine New.mk ?_; intro b hb) | (refine New2.mk ?_; intro b c hb hbc) | (refine NewO.mk ?_; intro b c hb hbc) | (refine SameR.same ?_) | (refine Two.mk ?_ ?_) | (refine Tri.mk ?_ ?_ ?_) | (refine ed_eql ?_) | (refine ed_neq ?_) | (refine drawn tysOk mixed (by kernel_rfl) ?_) | fail))); all_goals (try (conv => whnf)))
      all_goals exact ⟨fun h' hs => ⟨rfl, hs.grows⟩⟩
end Go.Ex
