/-
  Lines: the place of a line and a column; the document's example.
-/
import Derived.Test.YtfaiabpmaklgmaaLnD
namespace Go.Ex
open Go.Proofs
set_option linter.unusedVariables false
set_option linter.unusedSimpArgs false
attribute [local irreducible] CallsH

theorem getI_ext {E E' : List Int} (hl : E.length = E'.length) (h : ∀ i : Int, 0 ≤ i → i < E.length → getI 0 E i = getI 0 E' i) : E = E' := by
  refine List.ext_getElem hl fun i h1 h2 => ?_
  have := h i (by omega) (by omega)
  simpa [getI, List.getD, h1, h2] using this
set_option maxHeartbeats 1000000 in
set_option maxRecDepth 10000 in
theorem ints_any (A B : Option Addr) (al ac bl bc : Nat) (X Y : List Int) (h : Heap) (hA : Sl (intR .i64) h A al X) (hB : Sl (intR .i64) h B bl Y) :
    CallsH Try.prog 12 #[.slice A al ac, .slice B bl bc] h fun v h' => v = denC (.prop (X = Y)) ∧ Grows h h' := by
  refine enter (rep := rep) (m := 6) (ex := []) (cu := []) tysOk Try.func12 rfl (by decide) (rs := [.tmp 4]) rfl rfl [.val (.slice A al ac), .val (.slice B bl bc)] rfl ?_
  have hX := hA.len_eq
  have hY := hB.len_eq
  have hs1 := hA.small
  by_cases hl : al = bl
  · subst hl
    ((repeat' ((conv => whnf); (first | (refine Ar.fit (by first | omega | (simp only [lo, hi]; omega)) ?_) | (refine VC.mk (by (first | omega | rfl | assumption | exact Sl.plain (by assumption) (by omega) | (and_intros <;> first | omega | rfl | assumption | (simp only [List.length_set]; omega) | (simp only [List.length_append, List.length_take, List.length_replicate, List.length_cons, List.length_nil]; omega) | (simp only [ByteArray.size_extract, ByteArray.size_append]; omega) | (simp only [List.length_cons, List.length_nil]; omega) | (simp only [Int.toNat_natCast, Int.toNat_one, List.length_take, List.length_cons, List.length_nil] at *; omega)))) ?_) | (refine Br.mk ?_ ?_ <;> intro hb <;> (try (first | (exfalso; omega) | exact absurd rfl hb | exact Bool.noConfusion hb | exact absurd (fun e => Bool.noConfusion e) hb | (exfalso; simp only [List.length_cons, List.length_nil] at hb; omega) | (exfalso; simp only [Int.toNat_natCast, Int.toNat_one, List.length_take, List.length_cons, List.length_nil] at hb; omega)))) | (refine XLoad.of (by assumption) rfl rfl (by omega) (by omega) rfl ?_) | (refine New.mk ?_; intro b hb) | (refine New2.mk ?_; intro b c hb hbc) | (refine SameR.same ?_) | (refine Two.mk ?_ ?_) | (refine Tri.mk ?_ ?_ ?_) | (refine ed_eql ?_) | (refine ed_neq ?_) | (refine drawn tysOk mixed (by kernel_rfl) ?_) | fail))); all_goals (try (conv => whnf)))
    refine loop_rule tysOk [5] (fun x : Int => [(5, .val (.int .i64 x))]) (fun _ => []) (fun μ x => 0 ≤ x ∧ x ≤ al ∧ μ = (al - x).toNat ∧ ∀ j : Int, 0 ≤ j → j < x → getI 0 X j = getI 0 Y j) al 0 ?_
    conv => whnf
    refine ⟨by ((repeat (refine ⟨rfl, ?_⟩)); trivial), trivial, ⟨by simp, by simp, by simp, fun j h1 h2 => by omega⟩, ?_⟩
    rintro μ i ⟨a0, a1, a2, a3⟩
    have z1 : getI (intR .i64).dflt X i = getI 0 X i := rfl
    have z2 : getI (intR .i64).dflt Y i = getI 0 Y i := rfl
    by_cases hi : i < al
    · ((repeat' ((conv => whnf); (first | (refine Ar.fit (by first | omega | (simp only [lo, hi]; omega)) ?_) | (refine VC.mk (by (first | omega | rfl | assumption | exact Sl.plain (by assumption) (by omega) | (and_intros <;> first | omega | rfl | assumption | (simp only [List.length_set]; omega) | (simp only [List.length_append, List.length_take, List.length_replicate, List.length_cons, List.length_nil]; omega) | (simp only [ByteArray.size_extract, ByteArray.size_append]; omega) | (simp only [List.length_cons, List.length_nil]; omega) | (simp only [Int.toNat_natCast, Int.toNat_one, List.length_take, List.length_cons, List.length_nil] at *; omega)))) ?_) | (refine Br.mk ?_ ?_ <;> intro hb <;> (try (first | (exfalso; omega) | exact absurd rfl hb | exact Bool.noConfusion hb | exact absurd (fun e => Bool.noConfusion e) hb | (exfalso; simp only [List.length_cons, List.length_nil] at hb; omega) | (exfalso; simp only [Int.toNat_natCast, Int.toNat_one, List.length_take, List.length_cons, List.length_nil] at hb; omega)))) | (refine XLoad.of (by assumption) rfl rfl (by omega) (by omega) rfl ?_) | (refine New.mk ?_; intro b hb) | (refine New2.mk ?_; intro b c hb hbc) | (refine SameR.same ?_) | (refine Two.mk ?_ ?_) | (refine Tri.mk ?_ ?_ ?_) | (refine ed_eql ?_) | (refine ed_neq ?_) | (refine drawn tysOk mixed (by kernel_rfl) ?_) | fail))); all_goals (try (conv => whnf)))
      · have hne : ¬ X = Y := fun e => by subst e; omega
        exact ⟨fun h' hs => ⟨bool_no hne, hs.grows⟩⟩
      · refine ⟨μ - 1, i + 1, ⟨by omega, by omega, by omega, fun j h1 h2 => ?_⟩, by omega, by ((repeat (refine ⟨rfl, ?_⟩)); trivial), rfl, rfl, trivial⟩
        by_cases hj : j = i
        · subst hj; omega
        · exact a3 j h1 (by omega)
    · have he : X = Y := getI_ext (by omega) fun j h1 h2 => a3 j h1 (by omega)
      ((repeat' ((conv => whnf); (first | (refine Ar.fit (by first | omega | (simp only [lo, hi]; omega)) ?_) | (refine VC.mk (by (first | omega | rfl | assumption | exact Sl.plain (by assumption) (by omega) | (and_intros <;> first | omega | rfl | assumption | (simp only [List.length_set]; omega) | (simp only [List.length_append, List.length_take, List.length_replicate, List.length_cons, List.length_nil]; omega) | (simp only [ByteArray.size_extract, ByteArray.size_append]; omega) | (simp only [List.length_cons, List.length_nil]; omega) | (simp only [Int.toNat_natCast, Int.toNat_one, List.length_take, List.length_cons, List.length_nil] at *; omega)))) ?_) | (refine Br.mk ?_ ?_ <;> intro hb <;> (try (first | (exfalso; omega) | exact absurd rfl hb | exact Bool.noConfusion hb | exact absurd (fun e => Bool.noConfusion e) hb | (exfalso; simp only [List.length_cons, List.length_nil] at hb; omega) | (exfalso; simp only [Int.toNat_natCast, Int.toNat_one, List.length_take, List.length_cons, List.length_nil] at hb; omega)))) | (refine XLoad.of (by assumption) rfl rfl (by omega) (by omega) rfl ?_) | (refine New.mk ?_; intro b hb) | (refine New2.mk ?_; intro b c hb hbc) | (refine SameR.same ?_) | (refine Two.mk ?_ ?_) | (refine Tri.mk ?_ ?_ ?_) | (refine ed_eql ?_) | (refine ed_neq ?_) | (refine drawn tysOk mixed (by kernel_rfl) ?_) | fail))); all_goals (try (conv => whnf)))
      exact ⟨fun h' hs => ⟨bool_yes he, hs.grows⟩⟩
  · have hne : ¬ X = Y := fun e => by subst e; omega
    ((repeat' ((conv => whnf); (first | (refine Ar.fit (by first | omega | (simp only [lo, hi]; omega)) ?_) | (refine VC.mk (by (first | omega | rfl | assumption | exact Sl.plain (by assumption) (by omega) | (and_intros <;> first | omega | rfl | assumption | (simp only [List.length_set]; omega) | (simp only [List.length_append, List.length_take, List.length_replicate, List.length_cons, List.length_nil]; omega) | (simp only [ByteArray.size_extract, ByteArray.size_append]; omega) | (simp only [List.length_cons, List.length_nil]; omega) | (simp only [Int.toNat_natCast, Int.toNat_one, List.length_take, List.length_cons, List.length_nil] at *; omega)))) ?_) | (refine Br.mk ?_ ?_ <;> intro hb <;> (try (first | (exfalso; omega) | exact absurd rfl hb | exact Bool.noConfusion hb | exact absurd (fun e => Bool.noConfusion e) hb | (exfalso; simp only [List.length_cons, List.length_nil] at hb; omega) | (exfalso; simp only [Int.toNat_natCast, Int.toNat_one, List.length_take, List.length_cons, List.length_nil] at hb; omega)))) | (refine XLoad.of (by assumption) rfl rfl (by omega) (by omega) rfl ?_) | (refine New.mk ?_; intro b hb) | (refine New2.mk ?_; intro b c hb hbc) | (refine SameR.same ?_) | (refine Two.mk ?_ ?_) | (refine Tri.mk ?_ ?_ ?_) | (refine ed_eql ?_) | (refine ed_neq ?_) | (refine drawn tysOk mixed (by kernel_rfl) ?_) | fail))); all_goals (try (conv => whnf)))
    exact ⟨fun h' hs => ⟨bool_no hne, hs.grows⟩⟩

def offOk (s : ByteArray) (l c : Int) : Prop := (1 ≤ l ∧ l ≤ LL s) ∧ 1 ≤ c ∧ c - 1 ≤ toB s l - frB s l
noncomputable def offV (s : ByteArray) (l c : Int) : Int := @ite _ (offOk s l c) (Classical.propDecidable _) (frB s l + c - 1) 0
noncomputable def offE (s : ByteArray) (l c : Int) : Int := @ite _ (offOk s l c) (Classical.propDecidable _) 0 1
set_option maxHeartbeats 1000000 in
set_option maxRecDepth 10000 in
theorem off_any (s : ByteArray) (l c : Int) (h : Heap) (hs : s.size ≤ 1048576) (hcb : c ≤ 9223372036854775807) : CallsH Try.prog 19 #[.string s, .agg #[.int .i64 l, .int .i64 c]] h fun v h' => v = .tuple #[.int .i64 (offV s l c), .int .i64 (offE s l c)] ∧ Grows h h' := by
  refine enter (rep := rep) (m := 9) (ex := []) (cu := []) tysOk Try.func19 rfl (by decide) (rs := [.tmp 4, .tmp 5]) rfl rfl [.val (.string s), .agg [.val (.int .i64 l), .val (.int .i64 c)]] rfl ?_
  have hB := fun h => bounds_any s l h hs
  by_cases hn : 1 ≤ l ∧ l ≤ LL s
  · obtain ⟨a1, a2, a3, _, a5⟩ := seg_s s l hn.1 hn.2
    have e1 : bfV s l = frB s l := by rw [bfV, if_pos hn]
    have e2 : btV s l = toB s l := by rw [btV, if_pos hn]
    rw [e1, e2, prop_true hn] at hB
    by_cases ho : offOk s l c
    · have o1 := ho.2
      have e3 : offV s l c = frB s l + c - 1 := by rw [offV, if_pos ho]
      have e4 : offE s l c = 0 := by rw [offE, if_pos ho]
      rw [e3, e4]
      ((repeat' ((conv => whnf); (first | (refine Ar.fit (by first | omega | (simp only [lo, hi]; omega)) ?_) | (refine VC.mk (by (first | omega | rfl | assumption | exact Sl.plain (by assumption) (by omega) | (and_intros <;> first | omega | rfl | assumption | (simp only [List.length_set]; omega) | (simp only [List.length_append, List.length_take, List.length_replicate, List.length_cons, List.length_nil]; omega) | (simp only [ByteArray.size_extract, ByteArray.size_append]; omega) | (simp only [List.length_cons, List.length_nil]; omega) | (simp only [Int.toNat_natCast, Int.toNat_one, List.length_take, List.length_cons, List.length_nil] at *; omega)))) ?_) | (refine Br.mk ?_ ?_ <;> intro hb <;> (try (first | (exfalso; omega) | exact absurd rfl hb | exact Bool.noConfusion hb | exact absurd (fun e => Bool.noConfusion e) hb | (exfalso; simp only [List.length_cons, List.length_nil] at hb; omega) | (exfalso; simp only [Int.toNat_natCast, Int.toNat_one, List.length_take, List.length_cons, List.length_nil] at hb; omega)))) | (refine XLoad.of (by assumption) rfl rfl (by omega) (by omega) rfl ?_) | (refine New.mk ?_; intro b hb) | (refine New2.mk ?_; intro b c hb hbc) | (refine SameR.same ?_) | (refine Two.mk ?_ ?_) | (refine Tri.mk ?_ ?_ ?_) | (refine ed_eql ?_) | (refine ed_neq ?_) | (refine drawn tysOk mixed (by kernel_rfl) ?_) | (apply CallK.pure; (case hh => (intro h1 hs; exact hB _))) | fail))); all_goals (try (conv => whnf)))
      exact ⟨fun h' hs => ⟨rfl, hs.grows⟩⟩
    · have o1 : ¬ (1 ≤ c ∧ c - 1 ≤ toB s l - frB s l) := fun h => ho ⟨hn, h⟩
      have e3 : offV s l c = 0 := by rw [offV, if_neg ho]
      have e4 : offE s l c = 1 := by rw [offE, if_neg ho]
      rw [e3, e4]
      ((repeat' ((conv => whnf); (first | (refine Ar.fit (by first | omega | (simp only [lo, hi]; omega)) ?_) | (refine VC.mk (by (first | omega | rfl | assumption | exact Sl.plain (by assumption) (by omega) | (and_intros <;> first | omega | rfl | assumption | (simp only [List.length_set]; omega) | (simp only [List.length_append, List.length_take, List.length_replicate, List.length_cons, List.length_nil]; omega) | (simp only [ByteArray.size_extract, ByteArray.size_append]; omega) | (simp only [List.length_cons, List.length_nil]; omega) | (simp only [Int.toNat_natCast, Int.toNat_one, List.length_take, List.length_cons, List.length_nil] at *; omega)))) ?_) | (refine Br.mk ?_ ?_ <;> intro hb <;> (try (first | (exfalso; omega) | exact absurd rfl hb | exact Bool.noConfusion hb | exact absurd (fun e => Bool.noConfusion e) hb | (exfalso; simp only [List.length_cons, List.length_nil] at hb; omega) | (exfalso; simp only [Int.toNat_natCast, Int.toNat_one, List.length_take, List.length_cons, List.length_nil] at hb; omega)))) | (refine XLoad.of (by assumption) rfl rfl (by omega) (by omega) rfl ?_) | (refine New.mk ?_; intro b hb) | (refine New2.mk ?_; intro b c hb hbc) | (refine SameR.same ?_) | (refine Two.mk ?_ ?_) | (refine Tri.mk ?_ ?_ ?_) | (refine ed_eql ?_) | (refine ed_neq ?_) | (refine drawn tysOk mixed (by kernel_rfl) ?_) | (apply CallK.pure; (case hh => (intro h1 hs; exact hB _))) | fail))); all_goals (try (conv => whnf)))
      all_goals exact ⟨fun h' hs => ⟨rfl, hs.grows⟩⟩
  · have ho : ¬ offOk s l c := fun h => hn h.1
    have e3 : offV s l c = 0 := by rw [offV, if_neg ho]
    have e4 : offE s l c = 1 := by rw [offE, if_neg ho]
    rw [show denC (.prop (1 ≤ l ∧ l ≤ LL s)) = .bool false by simp [denC, hn]] at hB
    rw [e3, e4]
    ((repeat' ((conv => whnf); (first | (refine Ar.fit (by first | omega | (simp only [lo, hi]; omega)) ?_) | (refine VC.mk (by (first | omega | rfl | assumption | exact Sl.plain (by assumption) (by omega) | (and_intros <;> first | omega | rfl | assumption | (simp only [List.length_set]; omega) | (simp only [List.length_append, List.length_take, List.length_replicate, List.length_cons, List.length_nil]; omega) | (simp only [ByteArray.size_extract, ByteArray.size_append]; omega) | (simp only [List.length_cons, List.length_nil]; omega) | (simp only [Int.toNat_natCast, Int.toNat_one, List.length_take, List.length_cons, List.length_nil] at *; omega)))) ?_) | (refine Br.mk ?_ ?_ <;> intro hb <;> (try (first | (exfalso; omega) | exact absurd rfl hb | exact Bool.noConfusion hb | exact absurd (fun e => Bool.noConfusion e) hb | (exfalso; simp only [List.length_cons, List.length_nil] at hb; omega) | (exfalso; simp only [Int.toNat_natCast, Int.toNat_one, List.length_take, List.length_cons, List.length_nil] at hb; omega)))) | (refine XLoad.of (by assumption) rfl rfl (by omega) (by omega) rfl ?_) | (refine New.mk ?_; intro b hb) | (refine New2.mk ?_; intro b c hb hbc) | (refine SameR.same ?_) | (refine Two.mk ?_ ?_) | (refine Tri.mk ?_ ?_ ?_) | (refine ed_eql ?_) | (refine ed_neq ?_) | (refine drawn tysOk mixed (by kernel_rfl) ?_) | (apply CallK.pure; (case hh => (intro h1 hs; exact hB _))) | fail))); all_goals (try (conv => whnf)))
    exact ⟨fun h' hs => ⟨rfl, hs.grows⟩⟩
theorem lineT_size (s : ByteArray) (l : Int) (hn : 1 ≤ l ∧ l ≤ LL s) : ((lineT s l).size : Int) = toB s l - frB s l := by
  obtain ⟨a1, a2, a3, _, _⟩ := seg_s s l hn.1 hn.2
  rw [lineT, if_pos hn, ByteArray.size_extract]; omega
set_option maxHeartbeats 1000000 in
set_option maxRecDepth 10000 in
theorem roff_any (s : ByteArray) (l c : Int) (h : Heap) (hs : s.size ≤ 1048576) (hcb : c ≤ 9223372036854775807) : CallsH Try.prog 20 #[.string s, .agg #[.int .i64 l, .int .i64 c]] h fun v h' => v = .tuple #[.int .i64 (offV s l c), .int .i64 (offE s l c)] ∧ Grows h h' := by
  refine enter (rep := rep) (m := 8) (ex := []) (cu := []) tysOk Try.func20 rfl (by decide) (rs := [.tmp 4, .tmp 5]) rfl rfl [.val (.string s), .agg [.val (.int .i64 l), .val (.int .i64 c)]] rfl ?_
  have hB := fun h => rline_any s l h hs
  have hll := starts_len s
  have hLd : LL s = ((startsF s).length : Int) := rfl
  by_cases hn : 1 ≤ l ∧ l ≤ LL s
  · obtain ⟨a1, a2, a3, _, a5⟩ := seg_s s l hn.1 hn.2
    have hsz := lineT_size s l hn
    rw [show lineE s l = 0 by rw [lineE, if_pos hn]] at hB
    have z1 : getI (intR .i64).dflt (startsF s) (l - 1) = frB s l := rfl
    by_cases ho : offOk s l c
    · have o1 := ho.2
      have e3 : offV s l c = frB s l + c - 1 := by rw [offV, if_pos ho]
      have e4 : offE s l c = 0 := by rw [offE, if_pos ho]
      rw [e3, e4]
      ((repeat' ((conv => whnf); (first | (refine drawnW tysOk mixed (.pull 0 [1, 5, 6, 9, 10, 11, 12] (.pull 2 [3, 4, 5, 6, 9, 10, 11, 12] (.pull 7 [8, 9, 10, 11, 12] (.tri 1 3 8 (.pull 3 [4, 5, 6, 9, 10, 11, 12] (.pull 4 [5, 6, 9, 10, 11, 12] (.pull 5 [6, 9, 10, 11, 12] (.pull 6 [9, 10, 11, 12] (.pull 8 [9, 10, 11, 12] (.pull 9 [10, 11, 12] (.pull 10 [11, 12] (.pull 11 [12] (.pull 12 [] .done))))))))) (.pull 4 [5, 6, 9, 10, 11, 12] (.br 1 8 (.pull 5 [6, 9, 10, 11, 12] (.pull 6 [9, 10, 11, 12] (.pull 8 [9, 10, 11, 12] (.pull 9 [10, 11, 12] (.pull 10 [11, 12] (.pull 11 [12] (.pull 12 [] .done))))))) (.one 1 (.pull 5 [6, 9, 10, 11, 12] (.pull 6 [9, 10, 11, 12] (.pull 9 [10, 11, 12] (.pull 10 [11, 12] (.pull 11 [12] (.pull 12 [] .done))))))))) (.br 1 3 (.pull 3 [4, 5, 6, 9, 10, 11, 12] (.pull 4 [5, 6, 9, 10, 11, 12] (.pull 5 [6, 9, 10, 11, 12] (.pull 6 [9, 10, 11, 12] (.pull 9 [10, 11, 12] (.pull 10 [11, 12] (.pull 11 [12] (.pull 12 [] .done)))))))) (.pull 4 [5, 6, 9, 10, 11, 12] (.one 1 (.pull 5 [6, 9, 10, 11, 12] (.pull 6 [9, 10, 11, 12] (.pull 9 [10, 11, 12] (.pull 10 [11, 12] (.pull 11 [12] (.pull 12 [] .done))))))))))))) (by kernel_rfl) (by kernel_rfl) ?_) | (refine Ar.fit (by first | omega | (simp only [lo, hi]; omega)) ?_) | (refine VC.mk (by (first | omega | rfl | assumption | exact Sl.plain (by assumption) (by omega) | (and_intros <;> first | omega | rfl | assumption | (simp only [List.length_set]; omega) | (simp only [List.length_append, List.length_take, List.length_replicate, List.length_cons, List.length_nil]; omega) | (simp only [ByteArray.size_extract, ByteArray.size_append]; omega) | (simp only [List.length_cons, List.length_nil]; omega) | (simp only [Int.toNat_natCast, Int.toNat_one, List.length_take, List.length_cons, List.length_nil] at *; omega)))) ?_) | (refine Br.mk ?_ ?_ <;> intro hb <;> (try (first | (exfalso; omega) | exact absurd rfl hb | exact Bool.noConfusion hb | exact absurd (fun e => Bool.noConfusion e) hb | (exfalso; simp only [List.length_cons, List.length_nil] at hb; omega) | (exfalso; simp only [Int.toNat_natCast, Int.toNat_one, List.length_take, List.length_cons, List.length_nil] at hb; omega)))) | (refine XLoad.of (by assumption) rfl rfl (by omega) (by omega) rfl ?_) | (refine New.mk ?_; intro b hb) | (refine New2.mk ?_; intro b c hb hbc) | (refine SameR.same ?_) | (refine Two.mk ?_ ?_) | (refine Tri.mk ?_ ?_ ?_) | (refine ed_eql ?_) | (refine ed_neq ?_) | (refine drawn tysOk mixed (by kernel_rfl) ?_) | (apply CallK.pure; (case hh => (intro h1 hs; exact hB _))) | fail))); all_goals (try (conv => whnf)))
      all_goals
        refine CallK.fresh (R := intR .i64) (T := 3) (L := startsF s) 101 (fun v => v) (fun kv => kv) rfl (fun _ _ _ => rfl) (fun h1 hs1 => (rstarts_any s h1 hs).mono fun v h' ⟨a, b⟩ => ⟨v, rfl, a, b⟩) (fun e => by cases e) (fun bl cl hbl hcl => ?_)
        ((repeat' ((conv => whnf); (first | (refine Ar.fit (by first | omega | (simp only [lo, hi]; omega)) ?_) | (refine VC.mk (by (first | omega | rfl | assumption | exact Sl.plain (by assumption) (by omega) | (and_intros <;> first | omega | rfl | assumption | (simp only [List.length_set]; omega) | (simp only [List.length_append, List.length_take, List.length_replicate, List.length_cons, List.length_nil]; omega) | (simp only [ByteArray.size_extract, ByteArray.size_append]; omega) | (simp only [List.length_cons, List.length_nil]; omega) | (simp only [Int.toNat_natCast, Int.toNat_one, List.length_take, List.length_cons, List.length_nil] at *; omega)))) ?_) | (refine Br.mk ?_ ?_ <;> intro hb <;> (try (first | (exfalso; omega) | exact absurd rfl hb | exact Bool.noConfusion hb | exact absurd (fun e => Bool.noConfusion e) hb | (exfalso; simp only [List.length_cons, List.length_nil] at hb; omega) | (exfalso; simp only [Int.toNat_natCast, Int.toNat_one, List.length_take, List.length_cons, List.length_nil] at hb; omega)))) | (refine XLoad.of (by assumption) rfl rfl (by omega) (by omega) rfl ?_) | (refine New.mk ?_; intro b hb) | (refine New2.mk ?_; intro b c hb hbc) | (refine SameR.same ?_) | (refine Two.mk ?_ ?_) | (refine Tri.mk ?_ ?_ ?_) | (refine ed_eql ?_) | (refine ed_neq ?_) | (refine drawn tysOk mixed (by kernel_rfl) ?_) | fail))); all_goals (try (conv => whnf)))
      all_goals exact ⟨fun h' hs => ⟨rfl, hs.grows⟩⟩
    · have o1 : ¬ (1 ≤ c ∧ c - 1 ≤ toB s l - frB s l) := fun h => ho ⟨hn, h⟩
      have e3 : offV s l c = 0 := by rw [offV, if_neg ho]
      have e4 : offE s l c = 1 := by rw [offE, if_neg ho]
      rw [e3, e4]
      ((repeat' ((conv => whnf); (first | (refine Ar.fit (by first | omega | (simp only [lo, hi]; omega)) ?_) | (refine VC.mk (by (first | omega | rfl | assumption | exact Sl.plain (by assumption) (by omega) | (and_intros <;> first | omega | rfl | assumption | (simp only [List.length_set]; omega) | (simp only [List.length_append, List.length_take, List.length_replicate, List.length_cons, List.length_nil]; omega) | (simp only [ByteArray.size_extract, ByteArray.size_append]; omega) | (simp only [List.length_cons, List.length_nil]; omega) | (simp only [Int.toNat_natCast, Int.toNat_one, List.length_take, List.length_cons, List.length_nil] at *; omega)))) ?_) | (refine Br.mk ?_ ?_ <;> intro hb <;> (try (first | (exfalso; omega) | exact absurd rfl hb | exact Bool.noConfusion hb | exact absurd (fun e => Bool.noConfusion e) hb | (exfalso; simp only [List.length_cons, List.length_nil] at hb; omega) | (exfalso; simp only [Int.toNat_natCast, Int.toNat_one, List.length_take, List.length_cons, List.length_nil] at hb; omega)))) | (refine XLoad.of (by assumption) rfl rfl (by omega) (by omega) rfl ?_) | (refine New.mk ?_; intro b hb) | (refine New2.mk ?_; intro b c hb hbc) | (refine SameR.same ?_) | (refine Two.mk ?_ ?_) | (refine Tri.mk ?_ ?_ ?_) | (refine ed_eql ?_) | (refine ed_neq ?_) | (refine drawn tysOk mixed (by kernel_rfl) ?_) | (apply CallK.pure; (case hh => (intro h1 hs; exact hB _))) | fail))); all_goals (try (conv => whnf)))
      all_goals exact ⟨fun h' hs => ⟨rfl, hs.grows⟩⟩
  · have ho : ¬ offOk s l c := fun h => hn h.1
    have e3 : offV s l c = 0 := by rw [offV, if_neg ho]
    have e4 : offE s l c = 1 := by rw [offE, if_neg ho]
    rw [show lineE s l = 1 by rw [lineE, if_neg hn]] at hB
    rw [e3, e4]
    ((repeat' ((conv => whnf); (first | (refine Ar.fit (by first | omega | (simp only [lo, hi]; omega)) ?_) | (refine VC.mk (by (first | omega | rfl | assumption | exact Sl.plain (by assumption) (by omega) | (and_intros <;> first | omega | rfl | assumption | (simp only [List.length_set]; omega) | (simp only [List.length_append, List.length_take, List.length_replicate, List.length_cons, List.length_nil]; omega) | (simp only [ByteArray.size_extract, ByteArray.size_append]; omega) | (simp only [List.length_cons, List.length_nil]; omega) | (simp only [Int.toNat_natCast, Int.toNat_one, List.length_take, List.length_cons, List.length_nil] at *; omega)))) ?_) | (refine Br.mk ?_ ?_ <;> intro hb <;> (try (first | (exfalso; omega) | exact absurd rfl hb | exact Bool.noConfusion hb | exact absurd (fun e => Bool.noConfusion e) hb | (exfalso; simp only [List.length_cons, List.length_nil] at hb; omega) | (exfalso; simp only [Int.toNat_natCast, Int.toNat_one, List.length_take, List.length_cons, List.length_nil] at hb; omega)))) | (refine XLoad.of (by assumption) rfl rfl (by omega) (by omega) rfl ?_) | (refine New.mk ?_; intro b hb) | (refine New2.mk ?_; intro b c hb hbc) | (refine SameR.same ?_) | (refine Two.mk ?_ ?_) | (refine Tri.mk ?_ ?_ ?_) | (refine ed_eql ?_) | (refine ed_neq ?_) | (refine drawn tysOk mixed (by kernel_rfl) ?_) | (apply CallK.pure; (case hh => (intro h1 hs; exact hB _))) | fail))); all_goals (try (conv => whnf)))
    exact ⟨fun h' hs => ⟨rfl, hs.grows⟩⟩
end Go.Ex
