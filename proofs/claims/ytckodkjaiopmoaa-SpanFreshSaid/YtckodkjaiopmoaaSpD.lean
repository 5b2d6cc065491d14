/-
  Span: fits, and the edited text.
-/
import Derived.Test.YtckodkjaiopmoaaSpC
namespace Go.Ex
open Go.Proofs
set_option linter.unusedVariables false

/-- fits, from an edit on: how long the text is so far; none: too long -/
def fitGo (z : Int) : List Ed → Int → Option Int
  | [], n => if 65536 < n then none else some n
  | x :: r, n => if 262144 < n + (x.s.size - (x.t - x.f)) - z then none else fitGo z r (n + (x.s.size - (x.t - x.f)))
def fitE (s : ByteArray) (L : List Ed) : Int := if (65536 : Int) < s.size then 2 else if chk s.size L = 0 then (if (fitGo s.size L s.size).isSome then 0 else 2) else chk s.size L
def fitN (s : ByteArray) (L : List Ed) : Int := if (65536 : Int) < s.size then 0 else if chk s.size L = 0 then (fitGo s.size L s.size).getD 0 else 0
theorem chk_eq {n : Int} {L : List Ed} (h : ¬ 65536 < n) (h0 : 0 ≤ n) : chk n L = chkGo n L 0 := by unfold chk; rw [if_neg (by omega)]
set_option maxRecDepth 10000 in
theorem fits_any (s : ByteArray) (A : Option Addr) (len cap : Nat) (L : List Ed) (h : Heap) (hA : Sl edR h A len L) (hs : s.size ≤ 140737488355328) (hS : ∀ x ∈ L, x.s.size ≤ 140737488355328) :
    CallsH Try.prog 25 #[.string s, .slice A len cap] h fun v h' => v = .tuple #[.int .i64 (fitN s L), .int .i64 (fitE s L)] ∧ Grows h h' := by
  refine enter (rep := rep) (m := 9) (ex := [9, 22, 23, 24]) (cu := []) tysOk Try.func25 rfl (by decide) (rs := [.tmp 4, .tmp 5]) rfl rfl [.val (.string s), .val (.slice A len cap)] rfl ?_
  have hlen := hA.small
  have hL := hA.len_eq
  ((repeat' ((conv => whnf); (first | (refine Ar.fit (by omega) ?_) | (refine VC.mk (by (first | omega | rfl | assumption | exact Sl.plain (by assumption) (by omega) | (and_intros <;> first | omega | rfl | assumption | (simp only [List.length_set]; omega) | (simp only [ByteArray.size_extract, ByteArray.size_append]; omega) | (simp only [List.length_cons, List.length_nil]; omega) | (simp only [Int.toNat_natCast, Int.toNat_one, List.length_take, List.length_cons, List.length_nil] at *; omega)))) ?_) | (refine Br.mk ?_ ?_ <;> intro hb <;> (try (first | (exfalso; omega) | exact absurd rfl hb | exact Bool.noConfusion hb | exact absurd (fun e => Bool.noConfusion e) hb | (exfalso; simp only [List.length_cons, List.length_nil] at hb; omega) | (exfalso; simp only [Int.toNat_natCast, Int.toNat_one, List.length_take, List.length_cons, List.length_nil] at hb; omega)))) | (refine XLoad.of (by assumption) rfl rfl (by omega) (by omega) rfl ?_) | (refine New.mk ?_; intro b hb) | (refine New2.mk ?_; intro b c hb hbc) | (refine SameR.same ?_) | (refine Two.mk ?_ ?_) | (refine ed_eql ?_) | (refine ed_neq ?_) | (refine drawn tysOk mixed (by kernel_rfl) ?_) | (apply CallK.pure; (case hh => (intro h1 hs; exact check_any _ _ _ _ _ _ (hA.grows hs.grows)))) | fail))); all_goals (try (conv => whnf)))
  · exact ⟨fun h' hs' => ⟨tup_eq (int_eq (by rw [fitN, if_pos (by omega)])) (int_eq (by rw [fitE, if_pos (by omega)])), hs'.grows⟩⟩
  · exact ⟨fun h' hs' => ⟨tup_eq (int_eq (by rw [fitN, if_neg (by omega), if_neg hb])) (int_eq (by rw [fitE, if_neg (by omega), if_neg hb])), hs'.grows⟩⟩
  · have hb' := Classical.not_not.1 hb
    have hN : fitN s L = (fitGo s.size L s.size).getD 0 := by rw [fitN, if_neg (by omega), if_pos hb']
    have hE : fitE s L = if (fitGo s.size L s.size).isSome then 0 else 2 := by rw [fitE, if_neg (by omega), if_pos hb']
    have hc := hb'
    rw [chk_eq (by omega) (by omega)] at hc
    obtain ⟨r, hr⟩ : ∃ r, fitGo s.size L s.size = r := ⟨_, rfl⟩
    rw [hr] at hN hE
    rw [hN, hE]
    refine loop_rule tysOk [7, 24] (fun x : Int × Int => [(7, .val (.int .i64 x.1)), (24, .val (.int .i64 x.2))]) (fun _ => []) (fun μ x => 0 ≤ x.2 ∧ x.2 + μ = len ∧ (∃ e : Int, 0 ≤ e ∧ e ≤ s.size ∧ chkGo s.size (L.drop x.2.toNat) e = 0 ∧ s.size - e ≤ x.1) ∧ x.1 ≤ 262144 + s.size ∧ fitGo s.size (L.drop x.2.toNat) x.1 = r) len (s.size, 0) ?_
    conv => whnf
    refine ⟨?_, trivial, ⟨by simp only; omega, by simp only; omega, ⟨0, by omega, by omega, hc, by simp only; omega⟩, by simp only; omega, hr⟩, ?_⟩
    · ((repeat (refine ⟨rfl, ?_⟩)); trivial)
    rintro μ ⟨a, i⟩ ⟨h0, h1, ⟨e, he0, he1, he2, he3⟩, h3, h4⟩
    dsimp only at h0 h1 he2 he3 h3 h4 ⊢
    by_cases hi : i < len
    · have hx := hS (getI edR.dflt L i) (getI_mem _ _ _ h0 (by omega))
      rw [drop_get edR.dflt L i h0 (by omega)] at h4 he2
      simp only [fitGo] at h4
      simp only [chkGo] at he2
      have hne : ¬ ((getI edR.dflt L i).f < e ∨ (getI edR.dflt L i).t < (getI edR.dflt L i).f ∨ s.size < (getI edR.dflt L i).t) := by
        intro hh; rw [if_pos hh] at he2; omega
      rw [if_neg hne] at he2
      ((repeat' ((conv => whnf); (first | (refine Ar.fit (by omega) ?_) | (refine VC.mk (by (first | omega | rfl | assumption | exact Sl.plain (by assumption) (by omega) | (and_intros <;> first | omega | rfl | assumption | (simp only [List.length_set]; omega) | (simp only [ByteArray.size_extract, ByteArray.size_append]; omega) | (simp only [List.length_cons, List.length_nil]; omega) | (simp only [Int.toNat_natCast, Int.toNat_one, List.length_take, List.length_cons, List.length_nil] at *; omega)))) ?_) | (refine Br.mk ?_ ?_ <;> intro hb <;> (try (first | (exfalso; omega) | exact absurd rfl hb | exact Bool.noConfusion hb | exact absurd (fun e => Bool.noConfusion e) hb | (exfalso; simp only [List.length_cons, List.length_nil] at hb; omega) | (exfalso; simp only [Int.toNat_natCast, Int.toNat_one, List.length_take, List.length_cons, List.length_nil] at hb; omega)))) | (refine XLoad.of (by assumption) rfl rfl (by omega) (by omega) rfl ?_) | (refine New.mk ?_; intro b hb) | (refine New2.mk ?_; intro b c hb hbc) | (refine SameR.same ?_) | (refine Two.mk ?_ ?_) | (refine ed_eql ?_) | (refine ed_neq ?_) | (refine drawn tysOk mixed (by kernel_rfl) ?_) | fail))); all_goals (try (conv => whnf)))
      · rw [if_pos (by omega)] at h4; subst h4; exact ⟨fun h' hs' => ⟨rfl, hs'.grows⟩⟩
      · rw [if_neg (by omega)] at h4
        refine ⟨μ - 1, (_, i + 1), ⟨by simp only; omega, by simp only; omega, ⟨_, ?_, ?_, he2, ?_⟩, ?_, h4⟩, by omega, ?_, rfl, rfl, trivial⟩
        · omega
        · omega
        · simp only; omega
        · simp only; omega
        · ((repeat (refine ⟨rfl, ?_⟩)); trivial)
    · rw [drop_all L i (by omega)] at h4
      simp only [fitGo] at h4
      ((repeat' ((conv => whnf); (first | (refine Ar.fit (by omega) ?_) | (refine VC.mk (by (first | omega | rfl | assumption | exact Sl.plain (by assumption) (by omega) | (and_intros <;> first | omega | rfl | assumption | (simp only [List.length_set]; omega) | (simp only [ByteArray.size_extract, ByteArray.size_append]; omega) | (simp only [List.length_cons, List.length_nil]; omega) | (simp only [Int.toNat_natCast, Int.toNat_one, List.length_take, List.length_cons, List.length_nil] at *; omega)))) ?_) | (refine Br.mk ?_ ?_ <;> intro hb <;> (try (first | (exfalso; omega) | exact absurd rfl hb | exact Bool.noConfusion hb | exact absurd (fun e => Bool.noConfusion e) hb | (exfalso; simp only [List.length_cons, List.length_nil] at hb; omega) | (exfalso; simp only [Int.toNat_natCast, Int.toNat_one, List.length_take, List.length_cons, List.length_nil] at hb; omega)))) | (refine XLoad.of (by assumption) rfl rfl (by omega) (by omega) rfl ?_) | (refine New.mk ?_; intro b hb) | (refine New2.mk ?_; intro b c hb hbc) | (refine SameR.same ?_) | (refine Two.mk ?_ ?_) | (refine ed_eql ?_) | (refine ed_neq ?_) | (refine drawn tysOk mixed (by kernel_rfl) ?_) | fail))); all_goals (try (conv => whnf)))
      · rw [if_pos (by omega)] at h4; subst h4; exact ⟨fun h' hs' => ⟨rfl, hs'.grows⟩⟩
      · rw [if_neg (by omega)] at h4; subst h4; exact ⟨fun h' hs' => ⟨rfl, hs'.grows⟩⟩
end Go.Ex
