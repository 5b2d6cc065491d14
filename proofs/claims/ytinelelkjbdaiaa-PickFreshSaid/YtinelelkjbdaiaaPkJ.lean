/-
  Pick: which lists are well.
-/
import Derived.Test.YtinelelkjbdaiaaPkI
namespace Go.Ex
open Go.Proofs
set_option linter.unusedVariables false
set_option linter.unusedSimpArgs false
attribute [local irreducible] CallsH

def WellL (L : List Pt) : Prop := 0 < L.length ∧ endL L 0 = L.length
set_option maxHeartbeats 1000000 in
set_option maxRecDepth 10000 in
theorem rwell_any (A : Option Addr) (n c : Nat) (L : List Pt) (h : Heap) (hL : Sl partR h A n L) (hn : n ≤ 300) : CallsH Try.prog 14 #[.slice A n c] h fun v h' => v = denC (.prop (WellL L)) ∧ Grows h h' := by
  refine enter (rep := rep) (m := 4) (ex := []) (cu := []) tysOk Try.func14 rfl (by decide) (rs := [.tmp 2]) rfl rfl [.val (.slice A n c)] rfl ?_
  have hlen := hL.len_eq
  ((repeat' ((conv => whnf); (first | (refine Ar.fit (by first | omega | (simp only [lo, hi]; omega)) ?_) | (refine VC.mk (by (first | omega | rfl | assumption | exact Sl.plain (by assumption) (by omega) | (and_intros <;> first | omega | rfl | assumption | (simp only [List.length_set]; omega) | (simp only [List.length_append, List.length_take, List.length_replicate, List.length_cons, List.length_nil]; omega) | (simp only [ByteArray.size_extract, ByteArray.size_append]; omega) | (simp only [List.length_cons, List.length_nil]; omega) | (simp only [Int.toNat_natCast, Int.toNat_one, List.length_take, List.length_cons, List.length_nil] at *; omega)))) ?_) | (refine Br.mk ?_ ?_ <;> intro hb <;> (try (first | (exfalso; omega) | exact absurd rfl hb | exact Bool.noConfusion hb | exact absurd (fun e => Bool.noConfusion e) hb | (exfalso; simp only [List.length_cons, List.length_nil] at hb; omega) | (exfalso; simp only [Int.toNat_natCast, Int.toNat_one, List.length_take, List.length_cons, List.length_nil] at hb; omega)))) | (refine XLoad.of (by assumption) rfl rfl (by omega) (by omega) rfl ?_) | (refine New.mk ?_; intro b hb) | (refine New2.mk ?_; intro b c hb hbc) | (refine NewO.mk ?_; intro b c hb hbc) | (refine SameR.same ?_) | (refine Two.mk ?_ ?_) | (refine Tri.mk ?_ ?_ ?_) | (refine ed_eql ?_) | (refine ed_neq ?_) | (refine drawn tysOk mixed (by kernel_rfl) ?_) | (apply CallK.pure; (case hh => (intro h1 hs; exact rend_any A n c L 0 h1 (hL.grows hs.grows) hn (by omega)))) | fail))); all_goals (try (conv => whnf)))
  · exact ⟨fun h' hs => ⟨prop_eq (by simp only [WellL]; omega), hs.grows⟩⟩
  · exact ⟨fun h' hs => ⟨bool_no (by simp only [WellL]; omega), hs.grows⟩⟩
end Go.Ex
