/-
  Span: the reference's Edited, Apply.
-/
import Derived.Test.YtckodkjaiopmoaaSpB
namespace Go.Ex
open Go.Proofs
set_option linter.unusedVariables false

def step (x : Ed) (s : ByteArray) : ByteArray := s.extract 0 x.f.toNat ++ x.s ++ s.extract x.t.toNat s.size
def backF (s : ByteArray) (L : List Ed) : ByteArray := L.foldr step s
def total : List Ed → Nat
  | [] => 0
  | x :: r => x.s.size + total r
def sumGo : List Ed → Int → Prop
  | [], _ => True
  | x :: r, a => a + x.s.size ≤ 262144 ∧ sumGo r (a + x.s.size)
theorem sum_total : ∀ (L : List Ed) (a : Int), sumGo L a → a ≤ 262144 → a + total L ≤ 262144
  | [], a, _, h => by simpa [total] using h
  | x :: r, a, h, _ => by have := sum_total r _ h.2 h.1; simp only [total]; omega
theorem total_drop : ∀ (L : List Ed) (i : Nat), total (L.drop i) ≤ total L
  | [], i => by simp
  | x :: r, 0 => by simp
  | x :: r, i + 1 => by have := total_drop r i; simp only [List.drop_succ_cons, total]; omega
theorem chk_mem (n : Int) : ∀ (L : List Ed) (e : Int), chkGo n L e = 0 → 0 ≤ e → ∀ x ∈ L, e ≤ x.f ∧ x.f ≤ x.t ∧ x.t ≤ n
  | [], e, _, _, x, hx => by simp at hx
  | y :: r, e, h, he, x, hx => by
    simp only [chkGo] at h
    split at h
    · omega
    · rename_i hc
      rcases List.mem_cons.1 hx with rfl | hx
      · omega
      · have := chk_mem n r y.t h (by omega) x hx; omega
theorem chk_drop (n : Int) : ∀ (L : List Ed) (e : Int) (i : Nat), chkGo n L e = 0 → 0 ≤ e → i < L.length → chkGo n (L.drop (i + 1)) (L.getD i ⟨0, 0, ⟨#[]⟩⟩).t = 0
  | [], e, i, _, _, hi => by simp at hi
  | y :: r, e, i, h, he, hi => by
    simp only [chkGo] at h
    split at h
    · omega
    · rename_i hc
      cases i with
      | zero => simpa using h
      | succ i => simpa using chk_drop n r y.t i h (by omega) (by simpa using hi)
theorem back_lo (s : ByteArray) : ∀ (L : List Ed) (e : Int), chkGo s.size L e = 0 → 0 ≤ e → e ≤ s.size → e ≤ (backF s L).size ∧ (backF s L).size ≤ s.size + total L
  | [], e, _, _, h => ⟨h, by simp [backF, total]⟩
  | x :: r, e, h, he, hes => by
    simp only [chkGo] at h
    split at h
    · omega
    · rename_i hc
      have ih := back_lo s r x.t h (by omega) (by omega)
      have e1 : backF s (x :: r) = step x (backF s r) := rfl
      rw [e1]
      simp only [step, ByteArray.size_append, ByteArray.size_extract, total]
      omega
def edOk (s : ByteArray) (L : List Ed) : Prop := sumGo L s.size ∧ (backF s L).size ≤ 65536
noncomputable def edT (s : ByteArray) (L : List Ed) : ByteArray := @ite _ (sumGo L s.size) (Classical.propDecidable _) (backF s L) ⟨#[]⟩
theorem tup_eq {a b c d : Value} (h1 : a = c) (h2 : b = d) : Value.tuple #[a, b] = .tuple #[c, d] := by rw [h1, h2]
set_option maxRecDepth 10000 in
theorem edited_any (s : ByteArray) (A : Option Addr) (len cap : Nat) (L : List Ed) (h : Heap) (hA : Sl edR h A len L) (hs : s.size ≤ 65536) (hc : chkGo s.size L 0 = 0) (hS : ∀ x ∈ L, x.s.size ≤ 140737488355328) :
    CallsH Try.prog 27 #[.string s, .slice A len cap] h fun v h' => v = .tuple #[.string (edT s L), denC (.prop (edOk s L))] ∧ Grows h h' := by
  refine enter (rep := rep) (m := 9) (ex := []) (cu := []) tysOk Try.func27 rfl (by decide) (rs := [.tmp 4, .tmp 5]) rfl rfl [.val (.string s), .val (.slice A len cap)] rfl ?_
  have hlen := hA.small
  have hL := hA.len_eq
  ((repeat' ((conv => whnf); (first | (refine Ar.fit (by omega) ?_) | (refine VC.mk (by (first | omega | rfl | assumption | exact Sl.plain (by assumption) (by omega) | (and_intros <;> first | omega | rfl | assumption | (simp only [List.length_set]; omega) | (simp only [ByteArray.size_extract, ByteArray.size_append]; omega) | (simp only [List.length_cons, List.length_nil]; omega) | (simp only [Int.toNat_natCast, Int.toNat_one, List.length_take, List.length_cons, List.length_nil] at *; omega)))) ?_) | (refine Br.mk ?_ ?_ <;> intro hb <;> (try (first | (exfalso; omega) | exact absurd rfl hb | exact Bool.noConfusion hb | exact absurd (fun e => Bool.noConfusion e) hb | (exfalso; simp only [List.length_cons, List.length_nil] at hb; omega) | (exfalso; simp only [Int.toNat_natCast, Int.toNat_one, List.length_take, List.length_cons, List.length_nil] at hb; omega)))) | (refine XLoad.of (by assumption) rfl rfl (by omega) (by omega) rfl ?_) | (refine New.mk ?_; intro b hb) | (refine New2.mk ?_; intro b c hb hbc) | (refine SameR.same ?_) | (refine Two.mk ?_ ?_) | (refine ed_eql ?_) | (refine ed_neq ?_) | (refine drawn tysOk mixed (by kernel_rfl) ?_) | fail))); all_goals (try (conv => whnf)))
  refine loop_rule tysOk [6, 7] (fun x : Int × Int => [(6, .val (.int .i64 x.1)), (7, .val (.int .i64 x.2))]) (fun _ => []) (fun μ x => 0 ≤ x.2 ∧ x.2 + μ = len ∧ 0 ≤ x.1 ∧ x.1 ≤ 262144 ∧ (sumGo L s.size ↔ sumGo (L.drop x.2.toNat) x.1)) len (s.size, 0) ?_
  conv => whnf
  refine ⟨?_, trivial, ⟨by simp, by simp, by simp, by simp only; omega, by simp⟩, ?_⟩
  · ((repeat (refine ⟨rfl, ?_⟩)); trivial)
  rintro μ ⟨a, i⟩ ⟨h0, h1, h2, h3, h4⟩
  dsimp only at h0 h1 h2 h3 h4 ⊢
  by_cases hi : i < len
  · rw [drop_get edR.dflt L i h0 (by omega)] at h4
    simp only [sumGo] at h4
    have hx := hS (getI edR.dflt L i) (getI_mem _ _ _ h0 (by omega))
    ((repeat' ((conv => whnf); (first | (refine Ar.fit (by omega) ?_) | (refine VC.mk (by (first | omega | rfl | assumption | exact Sl.plain (by assumption) (by omega) | (and_intros <;> first | omega | rfl | assumption | (simp only [List.length_set]; omega) | (simp only [ByteArray.size_extract, ByteArray.size_append]; omega) | (simp only [List.length_cons, List.length_nil]; omega) | (simp only [Int.toNat_natCast, Int.toNat_one, List.length_take, List.length_cons, List.length_nil] at *; omega)))) ?_) | (refine Br.mk ?_ ?_ <;> intro hb <;> (try (first | (exfalso; omega) | exact absurd rfl hb | exact Bool.noConfusion hb | exact absurd (fun e => Bool.noConfusion e) hb | (exfalso; simp only [List.length_cons, List.length_nil] at hb; omega) | (exfalso; simp only [Int.toNat_natCast, Int.toNat_one, List.length_take, List.length_cons, List.length_nil] at hb; omega)))) | (refine XLoad.of (by assumption) rfl rfl (by omega) (by omega) rfl ?_) | (refine New.mk ?_; intro b hb) | (refine New2.mk ?_; intro b c hb hbc) | (refine SameR.same ?_) | (refine Two.mk ?_ ?_) | (refine ed_eql ?_) | (refine ed_neq ?_) | (refine drawn tysOk mixed (by kernel_rfl) ?_) | fail))); all_goals (try (conv => whnf)))
    · exact ⟨fun h' hs' => ⟨tup_eq (by simp only [edT]; rw [if_neg (fun e => by have := (h4.1 e).1; omega)]; rfl) (bool_no (fun e => by have := (h4.1 e.1).1; omega)), hs'.grows⟩⟩
    · refine ⟨μ - 1, (_, i + 1), ⟨by simp only; omega, by simp only; omega, ?_, ?_, h4.trans ⟨fun h => h.2, fun h => ⟨by omega, h⟩⟩⟩, by omega, ?_, rfl, rfl, trivial⟩
      · simp only; omega
      · simp only; omega
      · ((repeat (refine ⟨rfl, ?_⟩)); trivial)
  · rw [drop_all L i (by omega)] at h4
    have hsum : sumGo L s.size := h4.2 trivial
    have htot := sum_total L _ hsum (by omega)
    ((repeat' ((conv => whnf); (first | (refine Ar.fit (by omega) ?_) | (refine VC.mk (by (first | omega | rfl | assumption | exact Sl.plain (by assumption) (by omega) | (and_intros <;> first | omega | rfl | assumption | (simp only [List.length_set]; omega) | (simp only [ByteArray.size_extract, ByteArray.size_append]; omega) | (simp only [List.length_cons, List.length_nil]; omega) | (simp only [Int.toNat_natCast, Int.toNat_one, List.length_take, List.length_cons, List.length_nil] at *; omega)))) ?_) | (refine Br.mk ?_ ?_ <;> intro hb <;> (try (first | (exfalso; omega) | exact absurd rfl hb | exact Bool.noConfusion hb | exact absurd (fun e => Bool.noConfusion e) hb | (exfalso; simp only [List.length_cons, List.length_nil] at hb; omega) | (exfalso; simp only [Int.toNat_natCast, Int.toNat_one, List.length_take, List.length_cons, List.length_nil] at hb; omega)))) | (refine XLoad.of (by assumption) rfl rfl (by omega) (by omega) rfl ?_) | (refine New.mk ?_; intro b hb) | (refine New2.mk ?_; intro b c hb hbc) | (refine SameR.same ?_) | (refine Two.mk ?_ ?_) | (refine ed_eql ?_) | (refine ed_neq ?_) | (refine drawn tysOk mixed (by kernel_rfl) ?_) | fail))); all_goals (try (conv => whnf)))
    refine loop_rule tysOk [0, 8] (fun x : ByteArray × Int => [(0, .val (.string x.1)), (8, .val (.int .i64 x.2))]) (fun _ => []) (fun μ x => -1 ≤ x.2 ∧ x.2 + 1 = μ ∧ x.2 < len ∧ x.1 = backF s (L.drop (x.2 + 1).toNat)) len (s, (len : Int) - 1) ?_
    conv => whnf
    refine ⟨?_, trivial, ⟨by simp only; omega, by simp only; omega, by simp only; omega, ?_⟩, ?_⟩
    · ((repeat (refine ⟨rfl, ?_⟩)); trivial)
    · simp only; rw [show ((len : Int) - 1 + 1).toNat = L.length by omega, List.drop_length]; rfl
    rintro μ ⟨t, j⟩ ⟨g0, g1, g2, g3⟩
    dsimp only at g0 g1 g2 g3 ⊢
    by_cases hj : 0 ≤ j
    · have hm := getI_mem edR.dflt L j hj (by omega)
      have hx := hS _ hm
      have hx2 := chk_mem _ L 0 hc (by omega) _ hm
      have hcj := chk_drop _ L 0 j.toNat hc (by omega) (by omega)
      rw [show j.toNat + 1 = (j + 1).toNat by omega, show L.getD j.toNat ⟨0, 0, ⟨#[]⟩⟩ = getI edR.dflt L j from rfl] at hcj
      have hlo := back_lo s _ _ hcj (by omega) (by omega)
      have htd := total_drop L (j + 1).toNat
      rw [← g3] at hlo
      ((repeat' ((conv => whnf); (first | (refine Ar.fit (by omega) ?_) | (refine VC.mk (by (first | omega | rfl | assumption | exact Sl.plain (by assumption) (by omega) | (and_intros <;> first | omega | rfl | assumption | (simp only [List.length_set]; omega) | (simp only [ByteArray.size_extract, ByteArray.size_append]; omega) | (simp only [List.length_cons, List.length_nil]; omega) | (simp only [Int.toNat_natCast, Int.toNat_one, List.length_take, List.length_cons, List.length_nil] at *; omega)))) ?_) | (refine Br.mk ?_ ?_ <;> intro hb <;> (try (first | (exfalso; omega) | exact absurd rfl hb | exact Bool.noConfusion hb | exact absurd (fun e => Bool.noConfusion e) hb | (exfalso; simp only [List.length_cons, List.length_nil] at hb; omega) | (exfalso; simp only [Int.toNat_natCast, Int.toNat_one, List.length_take, List.length_cons, List.length_nil] at hb; omega)))) | (refine XLoad.of (by assumption) rfl rfl (by omega) (by omega) rfl ?_) | (refine New.mk ?_; intro b hb) | (refine New2.mk ?_; intro b c hb hbc) | (refine SameR.same ?_) | (refine Two.mk ?_ ?_) | (refine ed_eql ?_) | (refine ed_neq ?_) | (refine drawn tysOk mixed (by kernel_rfl) ?_) | fail))); all_goals (try (conv => whnf)))
      refine ⟨μ - 1, (step (getI edR.dflt L j) t, j - 1), ⟨by simp only; omega, by simp only; omega, by simp only; omega, ?_⟩, by omega, ?_, rfl, rfl, trivial⟩
      · simp only
        rw [show j - 1 + 1 = j by omega, drop_get edR.dflt L j hj (by omega)]
        show _ = step _ (backF s _)
        rw [← g3]
      · ((repeat (refine ⟨rfl, ?_⟩)); trivial)
    · have e1 : t = backF s L := by rw [g3, show j + 1 = 0 by omega]; rfl
      ((repeat' ((conv => whnf); (first | (refine Ar.fit (by omega) ?_) | (refine VC.mk (by (first | omega | rfl | assumption | exact Sl.plain (by assumption) (by omega) | (and_intros <;> first | omega | rfl | assumption | (simp only [List.length_set]; omega) | (simp only [ByteArray.size_extract, ByteArray.size_append]; omega) | (simp only [List.length_cons, List.length_nil]; omega) | (simp only [Int.toNat_natCast, Int.toNat_one, List.length_take, List.length_cons, List.length_nil] at *; omega)))) ?_) | (refine Br.mk ?_ ?_ <;> intro hb <;> (try (first | (exfalso; omega) | exact absurd rfl hb | exact Bool.noConfusion hb | exact absurd (fun e => Bool.noConfusion e) hb | (exfalso; simp only [List.length_cons, List.length_nil] at hb; omega) | (exfalso; simp only [Int.toNat_natCast, Int.toNat_one, List.length_take, List.length_cons, List.length_nil] at hb; omega)))) | (refine XLoad.of (by assumption) rfl rfl (by omega) (by omega) rfl ?_) | (refine New.mk ?_; intro b hb) | (refine New2.mk ?_; intro b c hb hbc) | (refine SameR.same ?_) | (refine Two.mk ?_ ?_) | (refine ed_eql ?_) | (refine ed_neq ?_) | (refine drawn tysOk mixed (by kernel_rfl) ?_) | fail))); all_goals (try (conv => whnf)))
      refine ⟨fun h' hs' => ⟨tup_eq ?_ (prop_eq ?_), hs'.grows⟩⟩
      · simp only [edT]; rw [if_pos hsum, e1]; rfl
      · rw [edOk, e1]; exact ⟨fun h => ⟨hsum, by omega⟩, fun h => by omega⟩
noncomputable def rapE (s : ByteArray) (L : List Ed) : Int := @ite _ (65536 < s.size) (Classical.propDecidable _) 2 (@ite _ (chkGo s.size L 0 = 0) (Classical.propDecidable _) (@ite _ (edOk s L) (Classical.propDecidable _) 0 2) 13)
noncomputable def rapT (s : ByteArray) (L : List Ed) : ByteArray := @ite _ (rapE s L = 0) (Classical.propDecidable _) (edT s L) ⟨#[]⟩
set_option maxRecDepth 10000 in
theorem rapply_any (s : ByteArray) (A : Option Addr) (len cap : Nat) (L : List Ed) (h : Heap) (hA : Sl edR h A len L) (hS : ∀ x ∈ L, x.s.size ≤ 140737488355328) :
    CallsH Try.prog 15 #[.string s, .slice A len cap] h fun v h' => v = .tuple #[.string (rapT s L), .int .i64 (rapE s L)] ∧ Grows h h' := by
  refine enter (rep := rep) (m := 9) (ex := []) (cu := []) tysOk Try.func15 rfl (by decide) (rs := [.tmp 4, .tmp 5]) rfl rfl [.val (.string s), .val (.slice A len cap)] rfl ?_
  have h2 := chk_two s.size L 0
  ((repeat' ((conv => whnf); (first | (refine Ar.fit (by omega) ?_) | (refine VC.mk (by (first | omega | rfl | assumption | exact Sl.plain (by assumption) (by omega) | (and_intros <;> first | omega | rfl | assumption | (simp only [List.length_set]; omega) | (simp only [ByteArray.size_extract, ByteArray.size_append]; omega) | (simp only [List.length_cons, List.length_nil]; omega) | (simp only [Int.toNat_natCast, Int.toNat_one, List.length_take, List.length_cons, List.length_nil] at *; omega)))) ?_) | (refine Br.mk ?_ ?_ <;> intro hb <;> (try (first | (exfalso; omega) | exact absurd rfl hb | exact Bool.noConfusion hb | exact absurd (fun e => Bool.noConfusion e) hb | (exfalso; simp only [List.length_cons, List.length_nil] at hb; omega) | (exfalso; simp only [Int.toNat_natCast, Int.toNat_one, List.length_take, List.length_cons, List.length_nil] at hb; omega)))) | (refine XLoad.of (by assumption) rfl rfl (by omega) (by omega) rfl ?_) | (refine New.mk ?_; intro b hb) | (refine New2.mk ?_; intro b c hb hbc) | (refine SameR.same ?_) | (refine Two.mk ?_ ?_) | (refine ed_eql ?_) | (refine ed_neq ?_) | (refine drawn tysOk mixed (by kernel_rfl) ?_) | (apply CallK.pure; (case hh => (intro h1 hs; exact stand_any _ _ _ _ _ _ (hA.grows hs.grows)))) | fail))); all_goals (try (conv => whnf)))
  · have hE : rapE s L = 2 := by rw [rapE, if_pos (by omega)]
    exact ⟨fun h' hs' => ⟨tup_eq (by rw [rapT, hE, if_neg (by decide)]; rfl) (int_eq hE.symm), hs'.grows⟩⟩
  · have hb' := dec_not hb
    have hE : rapE s L = 13 := by rw [rapE, if_neg (by omega), if_neg hb']
    exact ⟨fun h' hs' => ⟨tup_eq (by rw [rapT, hE, if_neg (by decide)]; rfl) (int_eq hE.symm), hs'.grows⟩⟩
  · have hb' : chkGo s.size L 0 = 0 := by simpa using hb
    ((repeat' ((conv => whnf); (first | (refine Ar.fit (by omega) ?_) | (refine VC.mk (by (first | omega | rfl | assumption | exact Sl.plain (by assumption) (by omega) | (and_intros <;> first | omega | rfl | assumption | (simp only [List.length_set]; omega) | (simp only [ByteArray.size_extract, ByteArray.size_append]; omega) | (simp only [List.length_cons, List.length_nil]; omega) | (simp only [Int.toNat_natCast, Int.toNat_one, List.length_take, List.length_cons, List.length_nil] at *; omega)))) ?_) | (refine Br.mk ?_ ?_ <;> intro hb <;> (try (first | (exfalso; omega) | exact absurd rfl hb | exact Bool.noConfusion hb | exact absurd (fun e => Bool.noConfusion e) hb | (exfalso; simp only [List.length_cons, List.length_nil] at hb; omega) | (exfalso; simp only [Int.toNat_natCast, Int.toNat_one, List.length_take, List.length_cons, List.length_nil] at hb; omega)))) | (refine XLoad.of (by assumption) rfl rfl (by omega) (by omega) rfl ?_) | (refine New.mk ?_; intro b hb) | (refine New2.mk ?_; intro b c hb hbc) | (refine SameR.same ?_) | (refine Two.mk ?_ ?_) | (refine ed_eql ?_) | (refine ed_neq ?_) | (refine drawn tysOk mixed (by kernel_rfl) ?_) | (apply CallK.pure; (case hh => (intro h1 hs; exact edited_any _ _ _ _ _ _ (hA.grows hs.grows) (by omega) hb' hS))) | fail))); all_goals (try (conv => whnf)))
    · have hb2 := dec_not (by assumption)
      have hE : rapE s L = 2 := by rw [rapE, if_neg (by omega), if_pos hb', if_neg hb2]
      exact ⟨fun h' hs' => ⟨tup_eq (by rw [rapT, hE, if_neg (by decide)]; rfl) (int_eq hE.symm), hs'.grows⟩⟩
    · have hb2 : edOk s L := by simpa using hb
      have hE : rapE s L = 0 := by rw [rapE, if_neg (by omega), if_pos hb', if_pos hb2]
      exact ⟨fun h' hs' => ⟨tup_eq (by rw [rapT, hE, if_pos rfl]; rfl) (int_eq hE.symm), hs'.grows⟩⟩
end Go.Ex
