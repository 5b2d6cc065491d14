/-
  Tree: the document's example.
-/
import Derived.Test.YtggbpdhhfgmocaaTrI
namespace Go.Ex
open Go.Proofs
set_option linter.unusedVariables false

attribute [local irreducible] CallsH
def fxT : List Nd := [⟨37, 2, 1, 0, 3⟩, ⟨26, 0, 0, 0, 1⟩, ⟨26, 0, 2, 2, 3⟩]
theorem fx0 : nd fxT 0 = ⟨37, 2, 1, 0, 3⟩ := rfl
theorem fx1 : nd fxT 1 = ⟨26, 0, 0, 0, 1⟩ := rfl
theorem fx2 : nd fxT 2 = ⟨26, 0, 2, 2, 3⟩ := rfl
theorem fxlen : fxT.length = 3 := rfl
theorem fx_lc {n : Int} (hn : 3 ≤ n) (i : Int) (h0 : 0 ≤ i) (h1 : i < 3) : lcP fxT n i := by
  have : i = 0 ∨ i = 1 ∨ i = 2 := by omega
  rcases this with rfl | rfl | rfl
  · simp only [lcP, fx0, fxlen]; omega
  · simp only [lcP, fx1, fxlen]; omega
  · simp only [lcP, fx2, fxlen]; omega
theorem fx_tree {n : Int} (hn : 3 ≤ n) : TreeP fxT n := by
  refine ⟨by decide, fx_lc hn 0 (by omega) (by omega), ?_⟩
  rw [fx0, fxlen]
  refine .cons 0 1 2 0 2 3 (by omega) (by omega) (by decide) ⟨by rw [fx1]; simp, by rw [fx1, fx0]; simp, by rw [fx1, fx0]; simp⟩ (fx_lc hn 1 (by omega) (by omega)) (.nil _ _ _) ?_
  refine .cons 0 2 _ _ 3 3 (by omega) (by omega) (by decide) ⟨by rw [fx1, fx2]; simp, by rw [fx2, fx0]; simp, by rw [fx2, fx0]; simp⟩ (fx_lc hn 2 (by omega) (by omega)) (.nil _ _ _) ?_
  exact .nil _ _ _
theorem fx_no : ¬ TreeP fxT 2 := fun h => by
  have := h.2.1
  simp only [lcP, fx0] at this
  omega
theorem fx_ends : EndsOk fxT [3, 2, 3] := by
  refine ⟨rfl, fun i h0 h1 => ?_, fun i h0 h1 => ?_⟩
  · have : i = 0 ∨ i = 1 ∨ i = 2 := by rw [fxlen] at h1; omega
    rcases this with rfl | rfl | rfl
    · have h := (fx_tree (n := 3) (by omega)).2.2
      exact Ms.of (h.ms (fun _ h => lcP_c h) 0 0)
    · exact Ms.nil _
    · exact Ms.nil _
  · have : i = 0 ∨ i = 1 ∨ i = 2 := by rw [fxlen] at h1; omega
    rcases this with rfl | rfl | rfl <;> decide
theorem fx_ups : UpsOk fxT [3, 2, 3] [-1, 0, 0] := by
  refine ⟨rfl, fun i h0 h1 => ?_⟩
  have : i = 0 ∨ i = 1 ∨ i = 2 := by rw [fxlen] at h1; omega
  rcases this with rfl | rfl | rfl
  · exact .inl ⟨rfl, rfl⟩
  · refine .inr ⟨by decide, by decide, by decide, by decide, fun k h2 h3 => ?_⟩
    have : getI 0 [-1, 0, 0] 1 = (0 : Int) := rfl
    omega
  · refine .inr ⟨by decide, by decide, by decide, by decide, fun k h2 h3 => ?_⟩
    have : getI 0 [-1, 0, 0] 2 = (0 : Int) := rfl
    have : k = 1 := by omega
    subst this
    decide
theorem fx_deep : DeepOk fxT [-1, 0, 0] 2 (fun j => if j = 0 then 1 else 2) := by
  refine ⟨fun i h0 h1 => ?_, fun i h0 h1 => ?_, ⟨1, by omega, by decide, rfl⟩⟩
  · have : i = 0 ∨ i = 1 ∨ i = 2 := by rw [fxlen] at h1; omega
    rcases this with rfl | rfl | rfl
    · exact .inl ⟨rfl, rfl⟩
    · exact .inr ⟨by decide, rfl⟩
    · exact .inr ⟨by decide, rfl⟩
  · have : i = 0 ∨ i = 1 ∨ i = 2 := by rw [fxlen] at h1; omega
    rcases this with rfl | rfl | rfl <;> decide
theorem fx_has (i : Int) (h0 : 0 ≤ i) (h1 : i < 3) : Has fxT i := ⟨fx_tree (by decide), h0, by rw [fxlen]; omega⟩
theorem fx_c3 : checkV fxT 3 = 0 := by rw [checkV, if_neg (by omega), if_pos (fx_tree (by omega))]
theorem fx_c2 : checkV fxT 2 = 8 := by rw [checkV, if_neg (by omega), if_neg fx_no]
theorem fx_e0 : endV fxT 0 = 3 := by rw [endV, if_pos (fx_has 0 (by omega) (by omega)), EL_eq fx_ends]; rfl
theorem fx_e1 : endV fxT 1 = 2 := by rw [endV, if_pos (fx_has 1 (by omega) (by omega)), EL_eq fx_ends]; rfl
theorem fx_u2 : upV fxT 2 = 0 := by rw [upV, if_pos (fx_has 2 (by omega) (by omega)), UL_eq fx_ends fx_ups]; rfl
theorem fx_d : depthV fxT = 2 := by rw [depthV, if_pos (fx_tree (by decide)), DL_eq fx_ends fx_ups fx_deep]
theorem fx_o1 : overV fxT 1 = 0 := by rw [overV, if_pos (fx_tree (by decide))]; decide
theorem fx_w0 : ownV fxT 0 = [1] := by rw [ownV, if_pos (fx_has 0 (by omega) (by omega)), EL_eq fx_ends]; decide
theorem HS.slB {h0 h : Heap} {ch : Chs} (hs : HS ⟨h0, [], ch⟩ h) {τ : Type} (k : Nat) {b T cap : Nat} {R : Rep τ} {xs : List τ} (hf : findC ch k = some (b, .arr T R xs cap)) {n : Nat} (hn : n = xs.length) : Sl R h (some ⟨b, 0, none⟩) n xs := hs.slA hf hn
set_option maxHeartbeats 4000000 in
set_option maxRecDepth 10000 in
theorem fixed_any (h : Heap) : CallsH Try.prog 7 #[] h fun v h' => v = .bool true ∧ Grows h h' := by
  refine enter (rep := rep) (m := 2) (ex := []) (cu := []) tysOk Try.func7 rfl (by decide) (rs := [.tmp 0]) rfl rfl [] rfl ?_
  have c3 := fun A cap h hA => check_any A 3 cap fxT 3 h hA (by omega)
  have c2 := fun A cap h hA => check_any A 3 cap fxT 2 h hA (by omega)
  have e0 := fun A cap h hA => end_any A 3 cap fxT 0 h hA (by omega)
  have e1 := fun A cap h hA => end_any A 3 cap fxT 1 h hA (by omega)
  have u2 := fun A cap h hA => up_any A 3 cap fxT 2 h hA (by omega)
  have o1 := fun A cap h hA => over_any A 3 cap fxT 1 h hA (by omega)
  have dd := fun A cap h hA => depth_any A 3 cap fxT h hA (by omega)
  have w0 := fun A cap h hA => own_any A 3 cap fxT 0 h hA (by omega)
  rw [fx_c3] at c3
  rw [fx_c2] at c2
  rw [fx_e0] at e0
  rw [fx_e1] at e1
  rw [fx_u2] at u2
  rw [fx_o1] at o1
  rw [fx_d] at dd
  rw [fx_w0] at w0
  ((repeat' ((conv => whnf); (first | (refine Ar.fit (by omega) ?_) | (refine VC.mk (by (first | omega | rfl | assumption | exact Sl.plain (by assumption) (by omega) | (and_intros <;> first | omega | rfl | assumption | (simp only [List.length_set]; omega) | (simp only [ByteArray.size_extract, ByteArray.size_append]; omega) | (simp only [List.length_cons, List.length_nil]; omega) | (simp only [Int.toNat_natCast, Int.toNat_one, List.length_take, List.length_cons, List.length_nil] at *; omega)))) ?_) | (refine Br.mk ?_ ?_ <;> intro hb <;> (try (first | (exfalso; omega) | exact absurd rfl hb | exact Bool.noConfusion hb | exact absurd (fun e => Bool.noConfusion e) hb | (exfalso; simp only [List.length_cons, List.length_nil] at hb; omega) | (exfalso; simp only [Int.toNat_natCast, Int.toNat_one, List.length_take, List.length_cons, List.length_nil] at hb; omega)))) | (refine XLoad.of (by assumption) rfl rfl (by omega) (by omega) rfl ?_) | (refine New.mk ?_; intro b hb) | (refine New2.mk ?_; intro b c hb hbc) | (refine SameR.same ?_) | (refine Two.mk ?_ ?_) | (refine ed_eql ?_) | (refine ed_neq ?_) | (refine drawn tysOk mixed (by kernel_rfl) ?_) | (apply CallK.pure; (case hh => (intro h1 hs; exact c3 _ _ _ (hs.slB 5 rfl rfl)))) | (apply CallK.pure; (case hh => (intro h1 hs; exact c2 _ _ _ (hs.slB 5 rfl rfl)))) | (apply CallK.pure; (case hh => (intro h1 hs; exact e0 _ _ _ (hs.slB 5 rfl rfl)))) | (apply CallK.pure; (case hh => (intro h1 hs; exact e1 _ _ _ (hs.slB 5 rfl rfl)))) | (apply CallK.pure; (case hh => (intro h1 hs; exact u2 _ _ _ (hs.slB 5 rfl rfl)))) | fail))); all_goals (try (conv => whnf)))
  refine CallK.fresh (R := intR .i64) (T := 3) (L := [1]) 101 (fun v => v) (fun kv => kv) rfl (fun _ _ _ => rfl) (fun h1 hs => (w0 _ _ _ (hs.slB 5 rfl rfl)).mono fun v h' ⟨a, b⟩ => ⟨v, rfl, a, b⟩) (fun e => by cases e) (fun b' c' hb' hc' => ?_)
  ((repeat' ((conv => whnf); (first | (refine Ar.fit (by omega) ?_) | (refine VC.mk (by (first | omega | rfl | assumption | exact Sl.plain (by assumption) (by omega) | (and_intros <;> first | omega | rfl | assumption | (simp only [List.length_set]; omega) | (simp only [ByteArray.size_extract, ByteArray.size_append]; omega) | (simp only [List.length_cons, List.length_nil]; omega) | (simp only [Int.toNat_natCast, Int.toNat_one, List.length_take, List.length_cons, List.length_nil] at *; omega)))) ?_) | (refine Br.mk ?_ ?_ <;> intro hb <;> (try (first | (exfalso; omega) | exact absurd rfl hb | exact Bool.noConfusion hb | exact absurd (fun e => Bool.noConfusion e) hb | (exfalso; simp only [List.length_cons, List.length_nil] at hb; omega) | (exfalso; simp only [Int.toNat_natCast, Int.toNat_one, List.length_take, List.length_cons, List.length_nil] at hb; omega)))) | (refine XLoad.of (by assumption) rfl rfl (by omega) (by omega) rfl ?_) | (refine New.mk ?_; intro b hb) | (refine New2.mk ?_; intro b c hb hbc) | (refine SameR.same ?_) | (refine Two.mk ?_ ?_) | (refine ed_eql ?_) | (refine ed_neq ?_) | (refine drawn tysOk mixed (by kernel_rfl) ?_) | (apply CallK.pure; (case hh => (intro h1 hs; exact (ints_any _ _ 1 _ 1 _ [1] [1] _ (hs.slB 101 rfl rfl) (hs.slB 32 rfl rfl)).mono (fun v h' ⟨e1, e2⟩ => ⟨e1.trans (prop_true rfl), e2⟩)))) | (apply CallK.pure; (case hh => (intro h1 hs; exact o1 _ _ _ (hs.slB 5 rfl rfl)))) | (apply CallK.pure; (case hh => (intro h1 hs; exact dd _ _ _ (hs.slB 5 rfl rfl)))) | fail))); all_goals (try (conv => whnf)))
  exact ⟨fun h' hs => ⟨prop_true rfl, hs.grows⟩⟩
end Go.Ex
