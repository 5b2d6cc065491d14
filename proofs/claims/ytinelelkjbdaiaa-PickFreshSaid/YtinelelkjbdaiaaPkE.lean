/-
  Pick: the library's heap, walked.
-/
import Derived.Test.YtinelelkjbdaiaaPkD
namespace Go.Ex
open Go.Proofs
set_option linter.unusedVariables false
set_option linter.unusedSimpArgs false
attribute [local irreducible] CallsH

abbrev QV (bq : Nat) : Value := .iface 43 (.pointer (some ⟨bq, 0, none⟩))
set_option maxHeartbeats 1000000 in
set_option maxRecDepth 10000 in
theorem up_any (bq b cap : Nat) (L : List It) (j : Int) (h : Heap) (hs : HS ⟨h, [bq, b], QCh bq b cap L⟩ h) (hj : 0 ≤ j ∧ j < L.length) (hl : L.length ≤ 301) (hu : UpInv L j) :
    CallsH Try.prog 22 #[QV bq, .int .i64 j] h fun v h' => v = .tuple #[] ∧ ∃ L', L'.Perm L ∧ HeapTo L' L'.length ∧ HS ⟨h, [bq, b], QCh bq b cap L'⟩ h' := by
  refine enter_in (rep := rep) (m := 5) (ex := [17]) (cu := []) (args := [.val (QV bq), .val (.int .i64 j)]) tysOk Try.func22 rfl (by decide) (rs := []) rfl rfl rfl hs ?_
  ((repeat' ((conv => whnf); (first | (refine Ar.fit (by first | omega | (simp only [lo, hi]; omega)) ?_) | (refine VC.mk (by (first | omega | rfl | assumption | exact Sl.plain (by assumption) (by omega) | (and_intros <;> first | omega | rfl | assumption | (simp only [List.length_set]; omega) | (simp only [List.length_append, List.length_take, List.length_replicate, List.length_cons, List.length_nil]; omega) | (simp only [ByteArray.size_extract, ByteArray.size_append]; omega) | (simp only [List.length_cons, List.length_nil]; omega) | (simp only [Int.toNat_natCast, Int.toNat_one, List.length_take, List.length_cons, List.length_nil] at *; omega)))) ?_) | (refine Br.mk ?_ ?_ <;> intro hb <;> (try (first | (exfalso; omega) | exact absurd rfl hb | exact Bool.noConfusion hb | exact absurd (fun e => Bool.noConfusion e) hb | (exfalso; simp only [List.length_cons, List.length_nil] at hb; omega) | (exfalso; simp only [Int.toNat_natCast, Int.toNat_one, List.length_take, List.length_cons, List.length_nil] at hb; omega)))) | (refine XLoad.of (by assumption) rfl rfl (by omega) (by omega) rfl ?_) | (refine New.mk ?_; intro b hb) | (refine New2.mk ?_; intro b c hb hbc) | (refine NewO.mk ?_; intro b c hb hbc) | (refine SameR.same ?_) | (refine Two.mk ?_ ?_) | (refine Tri.mk ?_ ?_ ?_) | (refine ed_eql ?_) | (refine ed_neq ?_) | (refine drawn tysOk mixed (by kernel_rfl) ?_) | fail))); all_goals (try (conv => whnf)))
  refine loop_rule tysOk [1] (fun x : Int × List It => [(1, .val (.int .i64 x.1))]) (fun x => QCh bq b cap x.2) (fun μ x => 0 ≤ x.1 ∧ x.1 < x.2.length ∧ μ = x.1.toNat ∧ x.2.length ≤ 301 ∧ x.2.Perm L ∧ UpInv x.2 x.1) j.toNat (j, L) ?_
  conv => whnf
  refine ⟨by ((repeat (refine ⟨rfl, ?_⟩)); trivial), ⟨rfl, rfl, rfl, rfl, trivial⟩, ⟨hj.1, hj.2, rfl, hl, List.Perm.refl _, hu⟩, ?_⟩
  rintro μ ⟨j, M⟩ ⟨a0, a1, a2, a3, a4, a5⟩
  dsimp only at a0 a1 a2 a3 a4 a5 ⊢
  ((repeat' ((conv => whnf); (first | (refine Ar.fit (by first | omega | (simp only [lo, hi]; omega)) ?_) | (refine VC.mk (by (first | omega | rfl | assumption | exact Sl.plain (by assumption) (by omega) | (and_intros <;> first | omega | rfl | assumption | (simp only [List.length_set]; omega) | (simp only [List.length_append, List.length_take, List.length_replicate, List.length_cons, List.length_nil]; omega) | (simp only [ByteArray.size_extract, ByteArray.size_append]; omega) | (simp only [List.length_cons, List.length_nil]; omega) | (simp only [Int.toNat_natCast, Int.toNat_one, List.length_take, List.length_cons, List.length_nil] at *; omega)))) ?_) | (refine Br.mk ?_ ?_ <;> intro hb <;> (try (first | (exfalso; omega) | exact absurd rfl hb | exact Bool.noConfusion hb | exact absurd (fun e => Bool.noConfusion e) hb | (exfalso; simp only [List.length_cons, List.length_nil] at hb; omega) | (exfalso; simp only [Int.toNat_natCast, Int.toNat_one, List.length_take, List.length_cons, List.length_nil] at hb; omega)))) | (refine XLoad.of (by assumption) rfl rfl (by omega) (by omega) rfl ?_) | (refine New.mk ?_; intro b hb) | (refine New2.mk ?_; intro b c hb hbc) | (refine NewO.mk ?_; intro b c hb hbc) | (refine SameR.same ?_) | (refine Two.mk ?_ ?_) | (refine Tri.mk ?_ ?_ ?_) | (refine ed_eql ?_) | (refine ed_neq ?_) | (refine drawn tysOk mixed (by kernel_rfl) ?_) | (refine inv_less (L := M) rfl rfl (by omega) (by omega) ?_) | (refine inv_swap (L := M) rfl rfl (by omega) (by omega) ?_) | fail))); all_goals (try (conv => whnf)))
  all_goals first
    | exact ⟨fun h' hs => ⟨rfl, M, a4, a5.done (fun hh => absurd hh.2 (by assumption)), hs⟩⟩
    | exact ⟨fun h' hs => ⟨rfl, M, a4, a5.done (fun hh => by omega), hs⟩⟩
    | skip
  · have hlt := Classical.not_not.1 hb
    refine ⟨_, ((j - 1) / 2, swap M ((j - 1) / 2) j), ⟨by dsimp only; omega, by dsimp only; rw [swap_len]; omega, rfl, by dsimp only; rw [swap_len]; exact a3, (swap_perm M _ _ (by omega) (by omega)).trans a4, a5.step (by omega) a1 hlt⟩, by dsimp only; omega, by ((repeat (refine ⟨rfl, ?_⟩)); trivial), rfl, rfl, ⟨rfl, rfl, rfl, rfl, trivial⟩⟩
set_option maxHeartbeats 2000000 in
set_option maxRecDepth 10000 in
theorem down_any (bq b cap : Nat) (L : List It) (n : Int) (h : Heap) (hs : HS ⟨h, [bq, b], QCh bq b cap L⟩ h) (hn : 0 ≤ n ∧ n ≤ L.length) (hl : L.length ≤ 301) (hd : DnInv L n 0) :
    CallsH Try.prog 27 #[QV bq, .int .i64 0, .int .i64 n] h fun v h' => (∃ p, v = denC (.prop p)) ∧ ∃ L', L'.Perm L ∧ (∀ k : Int, n ≤ k → k < L.length → itAt L' k = itAt L k) ∧ HeapTo L' n ∧ HS ⟨h, [bq, b], QCh bq b cap L'⟩ h' := by
  refine enter_in (rep := rep) (m := 11) (ex := [21, 33, 39]) (cu := []) (args := [.val (QV bq), .val (.int .i64 0), .val (.int .i64 n)]) tysOk Try.func27 rfl (by decide) (rs := [.tmp 6]) rfl rfl rfl hs ?_
  ((repeat' ((conv => whnf); (first | (refine Ar.fit (by first | omega | (simp only [lo, hi]; omega)) ?_) | (refine VC.mk (by (first | omega | rfl | assumption | exact Sl.plain (by assumption) (by omega) | (and_intros <;> first | omega | rfl | assumption | (simp only [List.length_set]; omega) | (simp only [List.length_append, List.length_take, List.length_replicate, List.length_cons, List.length_nil]; omega) | (simp only [ByteArray.size_extract, ByteArray.size_append]; omega) | (simp only [List.length_cons, List.length_nil]; omega) | (simp only [Int.toNat_natCast, Int.toNat_one, List.length_take, List.length_cons, List.length_nil] at *; omega)))) ?_) | (refine Br.mk ?_ ?_ <;> intro hb <;> (try (first | (exfalso; omega) | exact absurd rfl hb | exact Bool.noConfusion hb | exact absurd (fun e => Bool.noConfusion e) hb | (exfalso; simp only [List.length_cons, List.length_nil] at hb; omega) | (exfalso; simp only [Int.toNat_natCast, Int.toNat_one, List.length_take, List.length_cons, List.length_nil] at hb; omega)))) | (refine XLoad.of (by assumption) rfl rfl (by omega) (by omega) rfl ?_) | (refine New.mk ?_; intro b hb) | (refine New2.mk ?_; intro b c hb hbc) | (refine NewO.mk ?_; intro b c hb hbc) | (refine SameR.same ?_) | (refine Two.mk ?_ ?_) | (refine Tri.mk ?_ ?_ ?_) | (refine ed_eql ?_) | (refine ed_neq ?_) | (refine drawn tysOk mixed (by kernel_rfl) ?_) | fail))); all_goals (try (conv => whnf)))
  refine loop_rule tysOk [7] (fun x : Int × List It => [(7, .val (.int .i64 x.1))]) (fun x => QCh bq b cap x.2) (fun μ x => 0 ≤ x.1 ∧ x.1 ≤ 301 ∧ μ = (301 - x.1).toNat ∧ x.2.length = L.length ∧ x.2.Perm L ∧ (∀ k : Int, n ≤ k → k < L.length → itAt x.2 k = itAt L k) ∧ DnInv x.2 n x.1) 301 (0, L) ?_
  conv => whnf
  refine ⟨by ((repeat (refine ⟨rfl, ?_⟩)); trivial), ⟨rfl, rfl, rfl, rfl, trivial⟩, ⟨by simp, by simp, rfl, rfl, List.Perm.refl _, fun _ _ _ => rfl, hd⟩, ?_⟩
  rintro μ ⟨i, M⟩ ⟨a0, a1, a2, a3, a4, a5, a6⟩
  dsimp only at a0 a1 a2 a3 a4 a5 a6 ⊢
  ((repeat' ((conv => whnf); (first | (refine Ar.fit (by first | omega | (simp only [lo, hi]; omega)) ?_) | (refine VC.mk (by (first | omega | rfl | assumption | exact Sl.plain (by assumption) (by omega) | (and_intros <;> first | omega | rfl | assumption | (simp only [List.length_set]; omega) | (simp only [List.length_append, List.length_take, List.length_replicate, List.length_cons, List.length_nil]; omega) | (simp only [ByteArray.size_extract, ByteArray.size_append]; omega) | (simp only [List.length_cons, List.length_nil]; omega) | (simp only [Int.toNat_natCast, Int.toNat_one, List.length_take, List.length_cons, List.length_nil] at *; omega)))) ?_) | (refine Br.mk ?_ ?_ <;> intro hb <;> (try (first | (exfalso; omega) | exact absurd rfl hb | exact Bool.noConfusion hb | exact absurd (fun e => Bool.noConfusion e) hb | (exfalso; simp only [List.length_cons, List.length_nil] at hb; omega) | (exfalso; simp only [Int.toNat_natCast, Int.toNat_one, List.length_take, List.length_cons, List.length_nil] at hb; omega)))) | (refine XLoad.of (by assumption) rfl rfl (by omega) (by omega) rfl ?_) | (refine New.mk ?_; intro b hb) | (refine New2.mk ?_; intro b c hb hbc) | (refine NewO.mk ?_; intro b c hb hbc) | (refine SameR.same ?_) | (refine Two.mk ?_ ?_) | (refine Tri.mk ?_ ?_ ?_) | (refine ed_eql ?_) | (refine ed_neq ?_) | (refine drawn tysOk mixed (by kernel_rfl) ?_) | (refine inv_less (L := M) rfl rfl (by omega) (by omega) ?_) | (refine inv_swap (L := M) rfl rfl (by omega) (by omega) ?_) | fail))); all_goals (try (conv => whnf)))
  all_goals first
    | exact ⟨fun h' hs => ⟨⟨_, rfl⟩, M, a4, a5, a6.done (fun k k0 k1 kp => by
        rcases (show k = 2 * i + 1 ∨ k = 2 * i + 1 + 1 by omega) with rfl | rfl
        all_goals first | omega | assumption | (simp only [Lt] at *; omega)), hs⟩⟩
    | skip
  · have hlt := Classical.not_not.1 hb
    refine ⟨_, (2 * i + 1 + 1, swap M i (2 * i + 1 + 1)), ⟨by dsimp only; omega, by dsimp only; omega, rfl, by dsimp only; rw [swap_len]; exact a3, (swap_perm M _ _ (by omega) (by omega)).trans a4, fun k k1 k2 => by
      dsimp only; rw [itAt_swap M _ _ k (by omega) (by omega) (by omega), if_neg (by omega), if_neg (by omega)]; exact a5 k k1 k2, a6.step (by omega) a0 (by omega) (by omega) hlt (fun k k0 k1 kp => by
        rcases (show k = 2 * i + 1 ∨ k = 2 * i + 1 + 1 by omega) with rfl | rfl
        all_goals first | assumption | (simp only [Lt] at *; omega))⟩, by dsimp only; omega, by ((repeat (refine ⟨rfl, ?_⟩)); trivial), rfl, rfl, ⟨rfl, rfl, rfl, rfl, trivial⟩⟩
  all_goals
    have hlt := Classical.not_not.1 hb
    refine ⟨_, (2 * i + 1, swap M i (2 * i + 1)), ⟨by dsimp only; omega, by dsimp only; omega, rfl, by dsimp only; rw [swap_len]; exact a3, (swap_perm M _ _ (by omega) (by omega)).trans a4, fun k k1 k2 => by
      dsimp only; rw [itAt_swap M _ _ k (by omega) (by omega) (by omega), if_neg (by omega), if_neg (by omega)]; exact a5 k k1 k2, a6.step (by omega) a0 (by omega) (by omega) hlt (fun k k0 k1 kp => by
        rcases (show k = 2 * i + 1 ∨ k = 2 * i + 1 + 1 by omega) with rfl | rfl
        all_goals first | omega | assumption | (simp only [Lt] at *; omega))⟩, by dsimp only; omega, by ((repeat (refine ⟨rfl, ?_⟩)); trivial), rfl, rfl, ⟨rfl, rfl, rfl, rfl, trivial⟩⟩
end Go.Ex
