/-
  Pick: the library's heap: put in, take out.
-/
import Derived.Test.YtinelelkjbdaiaaPkE
namespace Go.Ex
open Go.Proofs
set_option linter.unusedVariables false
set_option linter.unusedSimpArgs false
attribute [local irreducible] CallsH

theorem itAt_pre (L : List It) (x : It) (k : Int) (h0 : 0 ≤ k) (h1 : k < L.length) : itAt (L ++ [x]) k = itAt L k := by
  have : k.toNat < L.length := by omega
  simp only [itAt, getI, List.getD]
  rw [List.getElem?_append_left this]
theorem upinv_push {L : List It} {x : It} (h : HeapTo L L.length) : UpInv (L ++ [x]) L.length := by
  refine ⟨fun k k0 k1 kn => ?_, fun i0 k k0 k1 kp => ?_⟩
  · simp only [List.length_append, List.length_singleton] at k1
    rw [itAt_pre L x k (by omega) (by omega), itAt_pre L x _ (by omega) (by omega)]
    exact h k k0 (by omega)
  · simp only [List.length_append, List.length_singleton] at k1
    omega
set_option maxHeartbeats 1000000 in
set_option maxRecDepth 10000 in
theorem push_any (bq b cap : Nat) (L : List It) (x : It) (h : Heap) (hs : HS ⟨h, [bq, b], QCh bq b cap L⟩ h) (hl : L.length ≤ 300) (hh : HeapTo L L.length) :
    CallsH Try.prog 16 #[QV bq, ItV x] h fun v h' => v = .tuple #[] ∧ ∃ b' cap' L', L'.Perm (L ++ [x]) ∧ HeapTo L' L'.length ∧ HS ⟨h, [bq, b], QCh bq b' cap' L'⟩ h' := by
  refine enter_in (rep := rep) (m := 2) (ex := []) (cu := []) (args := [.val (QV bq), .val (ItV x)]) tysOk Try.func16 rfl (by decide) (rs := []) rfl rfl rfl hs ?_
  have hz : ((L ++ [x]).length : Int) = L.length + 1 := by simp
  have hz' : (L ++ [x]).length = L.length + 1 := by simp
  ((repeat' ((conv => whnf); (first | (refine Ar.fit (by first | omega | (simp only [lo, hi]; omega)) ?_) | (refine VC.mk (by (first | omega | rfl | assumption | exact Sl.plain (by assumption) (by omega) | (and_intros <;> first | omega | rfl | assumption | (simp only [List.length_set]; omega) | (simp only [List.length_append, List.length_take, List.length_replicate, List.length_cons, List.length_nil]; omega) | (simp only [ByteArray.size_extract, ByteArray.size_append]; omega) | (simp only [List.length_cons, List.length_nil]; omega) | (simp only [Int.toNat_natCast, Int.toNat_one, List.length_take, List.length_cons, List.length_nil] at *; omega)))) ?_) | (refine Br.mk ?_ ?_ <;> intro hb <;> (try (first | (exfalso; omega) | exact absurd rfl hb | exact Bool.noConfusion hb | exact absurd (fun e => Bool.noConfusion e) hb | (exfalso; simp only [List.length_cons, List.length_nil] at hb; omega) | (exfalso; simp only [Int.toNat_natCast, Int.toNat_one, List.length_take, List.length_cons, List.length_nil] at hb; omega)))) | (refine XLoad.of (by assumption) rfl rfl (by omega) (by omega) rfl ?_) | (refine New.mk ?_; intro b hb) | (refine New2.mk ?_; intro b c hb hbc) | (refine NewO.mk ?_; intro b c hb hbc) | (refine SameR.same ?_) | (refine Two.mk ?_ ?_) | (refine Tri.mk ?_ ?_ ?_) | (refine ed_eql ?_) | (refine ed_neq ?_) | (refine drawn tysOk mixed (by kernel_rfl) ?_) | (refine inv_push (x := x) (L := L) rfl rfl hl (fun b' cap' => ?_)) | (refine inv_len (L := L ++ [x]) rfl ?_) | fail))); all_goals (try (conv => whnf)))
  refine CallK.q (fun kv b2 cap2 L' => kv = .tup [] ∧ L'.Perm (L ++ [x]) ∧ HeapTo L' L'.length) rfl rfl (fun h1 hs1 => ?_) ?_
  · have := up_any bq b' cap' (L ++ [x]) L.length h1 hs1 (by omega) (by omega) (upinv_push hh)
    rw [show ((L ++ [x]).length : Int) - 1 = L.length by omega]
    exact this.mono fun u h' ⟨a1, L', a2, a3, a4⟩ => ⟨.tup [], b', cap', L', a1.symm, a4, rfl, a2, a3⟩
  · rintro kv b2 cap2 L' ⟨rfl, p1, p2⟩
    ((repeat' ((conv => whnf); (first | (refine Ar.fit (by first | omega | (simp only [lo, hi]; omega)) ?_) | (refine VC.mk (by (first | omega | rfl | assumption | exact Sl.plain (by assumption) (by omega) | (and_intros <;> first | omega | rfl | assumption | (simp only [List.length_set]; omega) | (simp only [List.length_append, List.length_take, List.length_replicate, List.length_cons, List.length_nil]; omega) | (simp only [ByteArray.size_extract, ByteArray.size_append]; omega) | (simp only [List.length_cons, List.length_nil]; omega) | (simp only [Int.toNat_natCast, Int.toNat_one, List.length_take, List.length_cons, List.length_nil] at *; omega)))) ?_) | (refine Br.mk ?_ ?_ <;> intro hb <;> (try (first | (exfalso; omega) | exact absurd rfl hb | exact Bool.noConfusion hb | exact absurd (fun e => Bool.noConfusion e) hb | (exfalso; simp only [List.length_cons, List.length_nil] at hb; omega) | (exfalso; simp only [Int.toNat_natCast, Int.toNat_one, List.length_take, List.length_cons, List.length_nil] at hb; omega)))) | (refine XLoad.of (by assumption) rfl rfl (by omega) (by omega) rfl ?_) | (refine New.mk ?_; intro b hb) | (refine New2.mk ?_; intro b c hb hbc) | (refine NewO.mk ?_; intro b c hb hbc) | (refine SameR.same ?_) | (refine Two.mk ?_ ?_) | (refine Tri.mk ?_ ?_ ?_) | (refine ed_eql ?_) | (refine ed_neq ?_) | (refine drawn tysOk mixed (by kernel_rfl) ?_) | fail))); all_goals (try (conv => whnf)))
    exact ⟨fun h' hs => ⟨rfl, _, _, L', p1, p2, hs⟩⟩
end Go.Ex
