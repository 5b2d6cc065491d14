/-
  Pick: the queue's methods behind a pointer, and the library's heap.
-/
import Derived.Test.YtinelelkjbdaiaaPkA
namespace Go.Ex
open Go.Proofs
set_option linter.unusedVariables false
set_option linter.unusedSimpArgs false
attribute [local irreducible] CallsH

theorem rowLen : Row Try.prog 43 "Len" 23 false := by unfold Row; kernel_rfl
theorem rowLess : Row Try.prog 43 "Less" 44 false := by unfold Row; kernel_rfl
theorem rowSwap : Row Try.prog 43 "Swap" 47 false := by unfold Row; kernel_rfl
theorem rowPush : Row Try.prog 43 "Push" 46 true := by unfold Row; kernel_rfl
theorem rowPop : Row Try.prog 43 "Pop" 45 true := by unfold Row; kernel_rfl
/-- the queue in memory -/
abbrev QCh (bq b cap : Nat) (L : List It) : Chs := [(14, bq, .box 45 [.osl 13 b L.length cap]), (13, b, .arr 48 itR L cap)]
theorem SameCh.arr {τ : Type} {T : Nat} {R : Rep τ} {xs ys : List τ} {c : Nat} (h : xs = ys) : SameCh (.arr T R xs c) (.arr T R ys c) := by subst h; exact SameCh.rfl
theorem SameCh.pre {τ : Type} {T : Nat} {R : Rep τ} {xs ys : List τ} {c : Nat} : SameCh (.arr T R (xs ++ ys) c) (.arr T R xs c) := fun h b hc => by
  obtain ⟨cs, h1, h2, h3, h4, h5⟩ := hc
  refine ⟨cs, h1, ?_, by rw [List.length_append] at h3; omega, h4, h5⟩
  have e : xs.length * R.sz = (xs.flatMap R.cells).length := (flat_len R xs).symm
  have := congrArg (List.take (xs.length * R.sz)) h2
  rw [List.take_take, Nat.min_eq_left (Nat.mul_le_mul_right _ (by rw [List.length_append]; omega))] at this
  rw [this, List.flatMap_append, e, List.take_left]
def ItV (x : It) : Value := .iface 48 (.agg ⟨itR.cells x⟩)
set_option maxHeartbeats 1000000 in
set_option maxRecDepth 10000 in
theorem qpush_any (bq b cap : Nat) (L : List It) (x : It) (h : Heap) (hs : HS ⟨h, [bq, b], QCh bq b cap L⟩ h) (hL : L.length ≤ 300) :
    CallsH Try.prog 46 #[.pointer (some ⟨bq, 0, none⟩), ItV x] h fun v h' => ∃ b' cap', v = .tuple #[] ∧ HS ⟨h, [bq, b], QCh bq b' cap' (L ++ [x])⟩ h' := by
  refine enter_in (rep := rep) (m := 6) (ex := [11]) (cu := []) (args := [.own 14 bq 0, .val (ItV x)]) tysOk Try.func46 rfl (by decide) (rs := []) rfl rfl rfl hs ?_
  ((repeat' ((conv => whnf); (first | (refine drawnW tysOk mixed (.pull 0 [7, 8] (.pull 1 [2, 3, 6, 7, 8] (.pull 2 [3, 6, 7, 8] (.pull 4 [5, 6, 7, 8] (.br 3 5 (.one 5 (.one 6 (.pull 7 [8] (.one 8 .done)))) (.pull 3 [6, 7, 8] (.one 6 (.pull 7 [8] (.one 8 .done))))))))) (by kernel_rfl) (by kernel_rfl) ?_) | (refine Ar.fit (by first | omega | (simp only [lo, hi]; omega)) ?_) | (refine VC.mk (by (first | omega | rfl | assumption | exact Sl.plain (by assumption) (by omega) | (and_intros <;> first | omega | rfl | assumption | (simp only [List.length_set]; omega) | (simp only [List.length_append, List.length_take, List.length_replicate, List.length_cons, List.length_nil]; omega) | (simp only [ByteArray.size_extract, ByteArray.size_append]; omega) | (simp only [List.length_cons, List.length_nil]; omega) | (simp only [Int.toNat_natCast, Int.toNat_one, List.length_take, List.length_cons, List.length_nil] at *; omega)))) ?_) | (refine Br.mk ?_ ?_ <;> intro hb <;> (try (first | (exfalso; omega) | exact absurd rfl hb | exact Bool.noConfusion hb | exact absurd (fun e => Bool.noConfusion e) hb | (exfalso; simp only [List.length_cons, List.length_nil] at hb; omega) | (exfalso; simp only [Int.toNat_natCast, Int.toNat_one, List.length_take, List.length_cons, List.length_nil] at hb; omega)))) | (refine XLoad.of (by assumption) rfl rfl (by omega) (by omega) rfl ?_) | (refine New.mk ?_; intro b hb) | (refine New2.mk ?_; intro b c hb hbc) | (refine NewO.mk ?_; intro b c hb hbc) | (refine SameR.same ?_) | (refine Two.mk ?_ ?_) | (refine Tri.mk ?_ ?_ ?_) | (refine ed_eql ?_) | (refine ed_neq ?_) | (refine drawn tysOk mixed (by kernel_rfl) ?_) | fail))); all_goals (try (conv => whnf)))
  all_goals exact ⟨fun h' hs => ⟨_, _, rfl, hs.ren [14, 18] (L := QCh _ _ _ (L ++ [x])) ⟨⟨_, rfl, SameCh.box (by simp [denC])⟩, rfl, ⟨_, rfl, SameCh.arr (by simp)⟩, rfl, trivial⟩⟩⟩
set_option maxHeartbeats 1000000 in
set_option maxRecDepth 10000 in
theorem qpop_any (bq b cap : Nat) (L : List It) (x : It) (h : Heap) (hs : HS ⟨h, [bq, b], QCh bq b cap (L ++ [x])⟩ h) (hL : L.length ≤ 300) :
    CallsH Try.prog 45 #[.pointer (some ⟨bq, 0, none⟩)] h fun v h' => v = ItV x ∧ HS ⟨h, [bq, b], QCh bq b cap L⟩ h' := by
  refine enter_in (rep := rep) (m := 6) (ex := []) (cu := []) (args := [.own 14 bq 0]) tysOk Try.func45 rfl (by decide) (rs := [.tmp 2]) rfl rfl rfl hs ?_
  have hz : ((L ++ [x]).length : Int) = L.length + 1 := by simp
  have hz' : (L ++ [x]).length = L.length + 1 := by simp
  have hcap : (L ++ [x]).length ≤ cap := by
    obtain ⟨_, _, _, h1, _⟩ := (hs.chunk (13, b, .arr 48 itR (L ++ [x]) cap) (by simp)).2.2
    exact h1
  have hx : getI itR.dflt (L ++ [x]) (((L ++ [x]).length : Int) - 1) = x := by simp [getI, List.getD]
  ((repeat' ((conv => whnf); (first | (refine Ar.fit (by first | omega | (simp only [lo, hi]; omega)) ?_) | (refine VC.mk (by (first | omega | rfl | assumption | exact Sl.plain (by assumption) (by omega) | (and_intros <;> first | omega | rfl | assumption | (simp only [List.length_set]; omega) | (simp only [List.length_append, List.length_take, List.length_replicate, List.length_cons, List.length_nil]; omega) | (simp only [ByteArray.size_extract, ByteArray.size_append]; omega) | (simp only [List.length_cons, List.length_nil]; omega) | (simp only [Int.toNat_natCast, Int.toNat_one, List.length_take, List.length_cons, List.length_nil] at *; omega)))) ?_) | (refine Br.mk ?_ ?_ <;> intro hb <;> (try (first | (exfalso; omega) | exact absurd rfl hb | exact Bool.noConfusion hb | exact absurd (fun e => Bool.noConfusion e) hb | (exfalso; simp only [List.length_cons, List.length_nil] at hb; omega) | (exfalso; simp only [Int.toNat_natCast, Int.toNat_one, List.length_take, List.length_cons, List.length_nil] at hb; omega)))) | (refine XLoad.of (by assumption) rfl rfl (by omega) (by omega) rfl ?_) | (refine New.mk ?_; intro b hb) | (refine New2.mk ?_; intro b c hb hbc) | (refine NewO.mk ?_; intro b c hb hbc) | (refine SameR.same ?_) | (refine Two.mk ?_ ?_) | (refine Tri.mk ?_ ?_ ?_) | (refine ed_eql ?_) | (refine ed_neq ?_) | (refine drawn tysOk mixed (by kernel_rfl) ?_) | fail))); all_goals (try (conv => whnf)))
  all_goals exact ⟨fun h' hs => ⟨by rw [hx]; rfl, hs.ren [14, 13] (L := QCh _ _ _ L) ⟨⟨_, rfl, SameCh.box (by simp [denC])⟩, rfl, ⟨_, rfl, SameCh.pre⟩, rfl, trivial⟩⟩⟩
end Go.Ex
