/-
  Pick: the library's heap: take out.
-/
import Derived.Test.YtinelelkjbdaiaaPkF
namespace Go.Ex
open Go.Proofs
set_option linter.unusedVariables false
set_option linter.unusedSimpArgs false
attribute [local irreducible] CallsH

theorem dninv_pop {L : List It} {n : Int} (h : HeapTo L L.length) (hn : n + 1 = L.length) (h0 : 0 ≤ n) : DnInv (swap L 0 n) n 0 := by
  refine ⟨fun k k0 k1 kp => ?_, fun i0 => absurd i0 (by omega)⟩
  rw [itAt_swap L 0 n k (by omega) (by omega) (by omega), itAt_swap L 0 n _ (by omega) (by omega) (by omega), if_neg (by omega), if_neg (by omega), if_neg (by omega), if_neg kp]
  exact h k k0 (by omega)
theorem split_last {L : List It} {n : Int} (hn : n + 1 = L.length) (h0 : 0 ≤ n) : ∃ M, L = M ++ [itAt L n] ∧ (M.length : Int) = n := by
  have hne : L ≠ [] := by intro e; subst e; simp at hn; omega
  refine ⟨L.dropLast, ?_, by rw [List.length_dropLast]; omega⟩
  have h1 := List.dropLast_concat_getLast hne
  have h2 : itAt L n = L.getLast hne := by
    rw [itAt_get L n h0 (by omega), List.getLast_eq_getElem]
    congr 1; omega
  rw [h2, h1]
theorem mem_itAt {L : List It} {y : It} (h : y ∈ L) : ∃ k : Int, 0 ≤ k ∧ k < L.length ∧ itAt L k = y := by
  obtain ⟨i, hi, e⟩ := List.mem_iff_getElem.1 h
  exact ⟨i, by omega, by omega, by rw [itAt_get L i (by omega) (by omega)]; exact e⟩
set_option maxHeartbeats 1000000 in
set_option maxRecDepth 10000 in
theorem pop_any (bq b cap : Nat) (L : List It) (h : Heap) (hs : HS ⟨h, [bq, b], QCh bq b cap L⟩ h) (h0 : 0 < L.length) (hl : L.length ≤ 301) (hh : HeapTo L L.length) :
    CallsH Try.prog 24 #[QV bq] h fun v h' => ∃ x b' cap' L', v = ItV x ∧ (L' ++ [x]).Perm L ∧ HeapTo L' L'.length ∧ (∀ y ∈ L', ¬ Lt y x) ∧ HS ⟨h, [bq, b], QCh bq b' cap' L'⟩ h' := by
  refine enter_in (rep := rep) (m := 4) (ex := []) (cu := []) (args := [.val (QV bq)]) tysOk Try.func24 rfl (by decide) (rs := [.tmp 2]) rfl rfl rfl hs ?_
  ((repeat' ((conv => whnf); (first | (refine Ar.fit (by first | omega | (simp only [lo, hi]; omega)) ?_) | (refine VC.mk (by (first | omega | rfl | assumption | exact Sl.plain (by assumption) (by omega) | (and_intros <;> first | omega | rfl | assumption | (simp only [List.length_set]; omega) | (simp only [List.length_append, List.length_take, List.length_replicate, List.length_cons, List.length_nil]; omega) | (simp only [ByteArray.size_extract, ByteArray.size_append]; omega) | (simp only [List.length_cons, List.length_nil]; omega) | (simp only [Int.toNat_natCast, Int.toNat_one, List.length_take, List.length_cons, List.length_nil] at *; omega)))) ?_) | (refine Br.mk ?_ ?_ <;> intro hb <;> (try (first | (exfalso; omega) | exact absurd rfl hb | exact Bool.noConfusion hb | exact absurd (fun e => Bool.noConfusion e) hb | (exfalso; simp only [List.length_cons, List.length_nil] at hb; omega) | (exfalso; simp only [Int.toNat_natCast, Int.toNat_one, List.length_take, List.length_cons, List.length_nil] at hb; omega)))) | (refine XLoad.of (by assumption) rfl rfl (by omega) (by omega) rfl ?_) | (refine New.mk ?_; intro b hb) | (refine New2.mk ?_; intro b c hb hbc) | (refine NewO.mk ?_; intro b c hb hbc) | (refine SameR.same ?_) | (refine Two.mk ?_ ?_) | (refine Tri.mk ?_ ?_ ?_) | (refine ed_eql ?_) | (refine ed_neq ?_) | (refine drawn tysOk mixed (by kernel_rfl) ?_) | (refine inv_swap (L := L) rfl rfl (by omega) (by omega) ?_) | (refine inv_len (L := L) rfl ?_) | fail))); all_goals (try (conv => whnf)))
  obtain ⟨n, hn⟩ : ∃ n : Int, n = L.length - 1 := ⟨_, rfl⟩
  rw [← hn]
  have hsl := swap_len L 0 n
  have hsp := swap_perm L 0 n (by omega) (by omega)
  have hdn := dninv_pop (n := n) hh (by omega) (by omega)
  have hmn : itAt (swap L 0 n) n = itAt L 0 := by rw [itAt_swap L 0 n n (by omega) (by omega) (by omega), if_pos rfl]
  refine CallK.q (L := swap L 0 n) (fun kv b2 cap2 L' => (∃ p, kv = .prop p) ∧ L'.Perm (swap L 0 n) ∧ itAt L' n = itAt L 0 ∧ HeapTo L' n) rfl rfl (fun h1 hs1 => ?_) ?_
  · exact (down_any bq b cap (swap L 0 n) n h1 hs1 (by omega) (by omega) hdn).mono fun u h' ⟨⟨p, a1⟩, L', a2, a3, a4, a5⟩ => ⟨.prop p, b, cap, L', a1.symm, a5, ⟨p, rfl⟩, a2, (a3 n (by omega) (by omega)).trans hmn, a4⟩
  · rintro kv b2 cap2 L' ⟨⟨p, rfl⟩, p1, p2, p3⟩
    have hpl := p1.length_eq
    obtain ⟨M, hM, hMl⟩ := split_last (L := L') (n := n) (by omega) (by omega)
    rw [p2] at hM
    subst hM
    ((repeat' ((conv => whnf); (first | (refine Ar.fit (by first | omega | (simp only [lo, hi]; omega)) ?_) | (refine VC.mk (by (first | omega | rfl | assumption | exact Sl.plain (by assumption) (by omega) | (and_intros <;> first | omega | rfl | assumption | (simp only [List.length_set]; omega) | (simp only [List.length_append, List.length_take, List.length_replicate, List.length_cons, List.length_nil]; omega) | (simp only [ByteArray.size_extract, ByteArray.size_append]; omega) | (simp only [List.length_cons, List.length_nil]; omega) | (simp only [Int.toNat_natCast, Int.toNat_one, List.length_take, List.length_cons, List.length_nil] at *; omega)))) ?_) | (refine Br.mk ?_ ?_ <;> intro hb <;> (try (first | (exfalso; omega) | exact absurd rfl hb | exact Bool.noConfusion hb | exact absurd (fun e => Bool.noConfusion e) hb | (exfalso; simp only [List.length_cons, List.length_nil] at hb; omega) | (exfalso; simp only [Int.toNat_natCast, Int.toNat_one, List.length_take, List.length_cons, List.length_nil] at hb; omega)))) | (refine XLoad.of (by assumption) rfl rfl (by omega) (by omega) rfl ?_) | (refine New.mk ?_; intro b hb) | (refine New2.mk ?_; intro b c hb hbc) | (refine NewO.mk ?_; intro b c hb hbc) | (refine SameR.same ?_) | (refine Two.mk ?_ ?_) | (refine Tri.mk ?_ ?_ ?_) | (refine ed_eql ?_) | (refine ed_neq ?_) | (refine drawn tysOk mixed (by kernel_rfl) ?_) | (refine inv_pop (x := itAt L 0) (L := M) rfl rfl (by omega) ?_) | fail))); all_goals (try (conv => whnf)))
    refine ⟨fun h' hs => ⟨_, _, _, M, rfl, p1.trans hsp, fun k k0 k1 => ?_, fun y hy => ?_, hs⟩⟩
    · have := p3 k k0 (by omega)
      rwa [itAt_pre M _ k (by omega) (by omega), itAt_pre M _ _ (by omega) (by omega)] at this
    · have hy' : y ∈ L := (p1.trans hsp).subset (List.mem_append.2 (.inl hy))
      obtain ⟨k, k0, k1, rfl⟩ := mem_itAt hy'
      exact hh.root k.toNat k k0 k1 (Nat.le_refl _)
end Go.Ex
