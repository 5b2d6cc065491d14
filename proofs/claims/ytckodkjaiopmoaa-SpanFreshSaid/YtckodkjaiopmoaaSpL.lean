/-
  Span: the fixed cases.
-/
import Derived.Test.YtckodkjaiopmoaaSpK
namespace Go.Ex
open Go.Proofs
set_option linter.unusedVariables false

theorem HS.slA {h0 h : Heap} {ch : Chs} (hs : HS ⟨h0, [], ch⟩ h) {τ : Type} {k b T cap : Nat} {R : Rep τ} {xs : List τ} (hf : findC ch k = some (b, .arr T R xs cap)) {n : Nat} (hn : n = xs.length) : Sl R h (some ⟨b, 0, none⟩) n xs := by
  obtain ⟨A, len, c, h1, h2⟩ := (hs.own hf (n := n) (by omega)).sl
  simp only [den, den1, denC, Int.toNat_natCast] at h1
  cases h1
  exact h2
theorem prop_true {p : Prop} (h : p) : denC (.prop p) = .bool true := by simp [denC, h]
def fxL : List Ed := [⟨1, 3, ⟨#[88]⟩⟩, ⟨3, 3, ⟨#[89]⟩⟩]
def fxS : ByteArray := ⟨#[97, 98, 99, 100]⟩
theorem fx_fit : fitE fxS fxL = 0 := by kernel_rfl
theorem fx_app : appT fxS fxL = ⟨#[97, 88, 89, 100]⟩ := by kernel_rfl
theorem fx_undo : undoL fxS fxL = [⟨1, 2, ⟨#[98, 99]⟩⟩, ⟨2, 3, ⟨#[]⟩⟩] := by kernel_rfl
theorem fx_mv : mvF 4 fxL 3 = some 3 := by kernel_rfl
theorem fx_diff : diffF ⟨#[97, 97, 97]⟩ ⟨#[97, 97]⟩ = ⟨2, 3, ⟨#[]⟩⟩ := by
  rw [diffF, if_neg (fun h => by have := congrArg ByteArray.size h; exact absurd this (by decide))]
  kernel_rfl
theorem fx_apply (A : Option Addr) (cap : Nat) (h : Heap) (hA : Sl edR h A 2 fxL) :
    CallsH Try.prog 14 #[.string fxS, .slice A 2 cap] h fun v h' => v = .tuple #[.string ⟨#[97, 88, 89, 100]⟩, .int .i64 0] ∧ Grows h h' := by
  have := apply_any fxS A 2 cap fxL h hA (by decide) (by intro x hx; simp [fxL] at hx; rcases hx with rfl | rfl <;> decide)
  rwa [fx_app, fx_fit] at this
theorem fx_move (A : Option Addr) (cap : Nat) (h : Heap) (hA : Sl edR h A 2 fxL) :
    CallsH Try.prog 16 #[.int .i64 4, .slice A 2 cap, .int .i64 3] h fun v h' => v = .tuple #[.int .i64 3, .bool true] ∧ Grows h h' := by
  have := move_any A 2 cap fxL 4 3 h hA (by intro x hx; simp [fxL] at hx; rcases hx with rfl | rfl <;> decide)
  rw [fx_mv] at this
  exact this.mono fun v h' ⟨h1, h2⟩ => ⟨h1.trans (tup_eq rfl (by simp [denC])), h2⟩
theorem fx_undoes (A : Option Addr) (cap : Nat) (h : Heap) (hA : Sl edR h A 2 fxL) :
    CallsH Try.prog 18 #[.string fxS, .slice A 2 cap] h fun v h' => ∃ B len c, v = .tuple #[.slice B len c, .int .i64 0] ∧ Sl edR h' B len [⟨1, 2, ⟨#[98, 99]⟩⟩, ⟨2, 3, ⟨#[]⟩⟩] ∧ Grows h h' := by
  have := undo_any fxS A 2 cap fxL h hA (by decide) (by intro x hx; simp [fxL] at hx; rcases hx with rfl | rfl <;> decide) (by decide)
  rw [fx_undo, fx_fit] at this
  exact this.mono fun v h' ⟨x, h1, h2, h3⟩ => by
    obtain ⟨B, len, c, e, hB⟩ := h2.sl
    exact ⟨B, len, c, by rw [h1, e], hB, h3⟩
theorem fx_diffs (h : Heap) : CallsH Try.prog 20 #[.string ⟨#[97, 97, 97]⟩, .string ⟨#[97, 97]⟩] h fun v h' => v = .agg #[.int .i64 2, .int .i64 3, .string ⟨#[]⟩] ∧ Grows h h' := by
  have := diff_any ⟨#[97, 97, 97]⟩ ⟨#[97, 97]⟩ h (by decide) (by decide)
  rwa [fx_diff] at this
set_option maxRecDepth 10000 in
theorem fixed_any (h : Heap) : CallsH Try.prog 11 #[] h fun v h' => v = .bool true ∧ Grows h h' := by
  refine enter (rep := rep) (m := 8) (ex := []) (cu := []) tysOk Try.func11 rfl (by decide) (rs := [.tmp 0]) rfl rfl [] rfl ?_
  ((repeat' ((conv => whnf); (first | (refine Ar.fit (by omega) ?_) | (refine VC.mk (by (first | omega | rfl | assumption | exact Sl.plain (by assumption) (by omega) | (and_intros <;> first | omega | rfl | assumption | (simp only [List.length_set]; omega) | (simp only [ByteArray.size_extract, ByteArray.size_append]; omega) | (simp only [List.length_cons, List.length_nil]; omega) | (simp only [Int.toNat_natCast, Int.toNat_one, List.length_take, List.length_cons, List.length_nil] at *; omega)))) ?_) | (refine Br.mk ?_ ?_ <;> intro hb <;> (try (first | (exfalso; omega) | exact absurd rfl hb | exact Bool.noConfusion hb | exact absurd (fun e => Bool.noConfusion e) hb | (exfalso; simp only [List.length_cons, List.length_nil] at hb; omega) | (exfalso; simp only [Int.toNat_natCast, Int.toNat_one, List.length_take, List.length_cons, List.length_nil] at hb; omega)))) | (refine XLoad.of (by assumption) rfl rfl (by omega) (by omega) rfl ?_) | (refine New.mk ?_; intro b hb) | (refine New2.mk ?_; intro b c hb hbc) | (refine SameR.same ?_) | (refine Two.mk ?_ ?_) | (refine ed_eql ?_) | (refine ed_neq ?_) | (refine drawn tysOk mixed (by kernel_rfl) ?_) | (apply CallK.pure; (case hh => (intro h1 hs; exact fx_apply _ _ _ (hs.slA (k := 10) rfl rfl)))) | (apply CallK.pure; (case hh => (intro h1 hs; exact fx_move _ _ _ (hs.slA (k := 10) rfl rfl)))) | fail))); all_goals (try (conv => whnf)))
  refine CallK.epoch (fun h1 hs => fx_undoes _ _ _ (hs.slA (k := 10) rfl rfl)) ?_
  rintro h1 u h2 hs ⟨B, len, c, rfl, hB, hg⟩
  have hg0 : Grows h h2 := hs.grows.trans hg
  ((repeat' ((conv => whnf); (first | (refine Ar.fit (by omega) ?_) | (refine VC.mk (by (first | omega | rfl | assumption | exact Sl.plain (by assumption) (by omega) | (and_intros <;> first | omega | rfl | assumption | (simp only [List.length_set]; omega) | (simp only [ByteArray.size_extract, ByteArray.size_append]; omega) | (simp only [List.length_cons, List.length_nil]; omega) | (simp only [Int.toNat_natCast, Int.toNat_one, List.length_take, List.length_cons, List.length_nil] at *; omega)))) ?_) | (refine Br.mk ?_ ?_ <;> intro hb <;> (try (first | (exfalso; omega) | exact absurd rfl hb | exact Bool.noConfusion hb | exact absurd (fun e => Bool.noConfusion e) hb | (exfalso; simp only [List.length_cons, List.length_nil] at hb; omega) | (exfalso; simp only [Int.toNat_natCast, Int.toNat_one, List.length_take, List.length_cons, List.length_nil] at hb; omega)))) | (refine XLoad.of (by assumption) rfl rfl (by omega) (by omega) rfl ?_) | (refine New.mk ?_; intro b hb) | (refine New2.mk ?_; intro b c hb hbc) | (refine SameR.same ?_) | (refine Two.mk ?_ ?_) | (refine ed_eql ?_) | (refine ed_neq ?_) | (refine drawn tysOk mixed (by kernel_rfl) ?_) | (apply CallK.pure; (case hh => (intro h1 hs; exact (same_any _ _ _ _ _ _ [⟨1, 2, ⟨#[98, 99]⟩⟩, ⟨2, 3, ⟨#[]⟩⟩] [⟨1, 2, ⟨#[98, 99]⟩⟩, ⟨2, 3, ⟨#[]⟩⟩] _ (hB.grows hs.grows) (hs.slA (k := 47) rfl rfl)).mono (fun v h' ⟨e1, e2⟩ => ⟨e1.trans (prop_true rfl), e2⟩)))) | (apply CallK.pure; (case hh => (intro h1 hs; exact fx_diffs _))) | fail))); all_goals (try (conv => whnf)))
  exact ⟨fun h' hs' => ⟨prop_true ⟨rfl, rfl, rfl⟩, hg0.trans hs'.grows⟩⟩
end Go.Ex
