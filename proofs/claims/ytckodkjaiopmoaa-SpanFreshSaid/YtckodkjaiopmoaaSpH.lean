/-
  Span: what undoes edits.
-/
import Derived.Test.YtckodkjaiopmoaaSpG
namespace Go.Ex
open Go.Proofs
set_option linter.unusedVariables false

def undoGo (s : ByteArray) : List Ed → Int → List Ed
  | [], _ => []
  | x :: r, m => ⟨x.f + m, x.f + m + x.s.size, s.extract x.f.toNat x.t.toNat⟩ :: undoGo s r (m + (x.s.size - (x.t - x.f)))
def undoL (s : ByteArray) (L : List Ed) : List Ed := if fitE s L = 0 then undoGo s L 0 else []
/-- a slice in a slot: nil, or own -/
def slK (k : Nat) (o : Option (Nat × Nat)) (n : Int) : KV := match o with
  | none => .val (.slice none 0 0)
  | some (b, c) => .osl k b n c
def slC (k : Nat) (o : Option (Nat × Nat)) (L : List Ed) : Chs := match o with
  | none => []
  | some (b, c) => [(k, b, .arr 36 edR L c)]
theorem fit_ok {s : ByteArray} {L : List Ed} (h : fitE s L = 0) : s.size ≤ 65536 ∧ chkGo s.size L 0 = 0 ∧ ∃ n, fitGo s.size L s.size = some n ∧ fitN s L = n := by
  unfold fitE at h
  split at h
  · omega
  · rename_i h1
    split at h
    · rename_i h2
      refine ⟨by omega, by rw [← chk_eq h1 (by omega)]; exact h2, ?_⟩
      cases hf : fitGo s.size L s.size with
      | none => simp [hf] at h
      | some n => exact ⟨n, rfl, by rw [fitN, if_neg h1, if_pos h2, hf]; rfl⟩
    · omega
theorem fit_bound (z : Int) : ∀ (L : List Ed) (n r : Int), fitGo z L n = some r → ∀ x ∈ L, (x.s.size : Int) ≤ 262144 + z + (x.t - x.f) - n + 0 ∨ True := fun _ _ _ _ _ _ => .inr trivial
set_option maxRecDepth 10000 in
theorem undo_any (s : ByteArray) (A : Option Addr) (len cap : Nat) (L : List Ed) (h : Heap) (hA : Sl edR h A len L) (hs : s.size ≤ 140737488355328) (hS : ∀ x ∈ L, x.s.size ≤ 140737488355328) (hr : len * 32 ≤ 140737488355328) :
    CallsH Try.prog 18 #[.string s, .slice A len cap] h fun v h' => ∃ x, v = .tuple #[x, .int .i64 (fitE s L)] ∧ OwnSl edR 36 h h' x (undoL s L) ∧ Grows h h' := by
  refine enter (rep := rep) (m := 10) (ex := [11, 12, 22, 23, 24]) (cu := []) tysOk Try.func18 rfl (by decide) (rs := [.tmp 4, .tmp 5]) rfl rfl [.val (.string s), .val (.slice A len cap)] rfl ?_
  have hlen := hA.small
  have hL := hA.len_eq
  ((repeat' ((conv => whnf); (first | (refine Ar.fit (by omega) ?_) | (refine VC.mk (by (first | omega | rfl | assumption | exact Sl.plain (by assumption) (by omega) | (and_intros <;> first | omega | rfl | assumption | (simp only [List.length_set]; omega) | (simp only [ByteArray.size_extract, ByteArray.size_append]; omega) | (simp only [List.length_cons, List.length_nil]; omega) | (simp only [Int.toNat_natCast, Int.toNat_one, List.length_take, List.length_cons, List.length_nil] at *; omega)))) ?_) | (refine Br.mk ?_ ?_ <;> intro hb <;> (try (first | (exfalso; omega) | exact absurd rfl hb | exact Bool.noConfusion hb | exact absurd (fun e => Bool.noConfusion e) hb | (exfalso; simp only [List.length_cons, List.length_nil] at hb; omega) | (exfalso; simp only [Int.toNat_natCast, Int.toNat_one, List.length_take, List.length_cons, List.length_nil] at hb; omega)))) | (refine XLoad.of (by assumption) rfl rfl (by omega) (by omega) rfl ?_) | (refine New.mk ?_; intro b hb) | (refine New2.mk ?_; intro b c hb hbc) | (refine SameR.same ?_) | (refine Two.mk ?_ ?_) | (refine ed_eql ?_) | (refine ed_neq ?_) | (refine drawn tysOk mixed (by kernel_rfl) ?_) | (apply CallK.pure; (case hh => (intro h1 hs; exact fits_any _ _ _ _ _ _ (hA.grows hs.grows) (by assumption) hS))) | fail))); all_goals (try (conv => whnf)))
  · exact ⟨fun h' hs' => ⟨_, rfl, by rw [undoL, if_neg hb]; exact .nil, hs'.grows⟩⟩
  · have hE : fitE s L = 0 := Classical.not_not.1 hb
    obtain ⟨z1, z2, N, z3, z4⟩ := fit_ok hE
    obtain ⟨R, hR⟩ : ∃ R, undoGo s L 0 = R := ⟨_, rfl⟩
    have hU : undoL s L = R := by rw [undoL, if_pos hE, hR]
    rw [hU, hE]
    refine loop_rule tysOk [8, 9, 24] (fun x : Option (Nat × Nat) × List Ed × Int × Int × Int => [(8, slK 47 x.1 x.2.2.1), (9, .val (.int .i64 x.2.2.2.1)), (24, .val (.int .i64 x.2.2.2.2))]) (fun x => slC 47 x.1 x.2.1)
      (fun μ x => 0 ≤ x.2.2.2.2 ∧ x.2.2.2.2 + μ = len ∧ x.2.2.1 = x.2.1.length ∧ x.2.2.1 = x.2.2.2.2 ∧ (x.1 = none → x.2.1 = []) ∧ (∀ b c, x.1 = some (b, c) → h.size ≤ b) ∧ x.2.1 ++ undoGo s (L.drop x.2.2.2.2.toNat) x.2.2.2.1 = R ∧
        (∃ e : Int, 0 ≤ e ∧ e ≤ s.size ∧ chkGo s.size (L.drop x.2.2.2.2.toNat) e = 0 ∧ -e ≤ x.2.2.2.1) ∧ x.2.2.2.1 ≤ 262144 ∧ fitGo s.size (L.drop x.2.2.2.2.toNat) (s.size + x.2.2.2.1) = some N) len ⟨none, [], 0, 0, 0⟩ ?_
    conv => whnf
    refine ⟨?_, trivial, ⟨by simp, by simp, by simp, by simp, by simp, by simp, by simpa using hR, ⟨0, by omega, by omega, z2, by simp⟩, by simp, by simpa using z3⟩, ?_⟩
    · ((repeat (refine ⟨rfl, ?_⟩)); trivial)
    rintro μ ⟨o, acc, n, m, i⟩ ⟨h0, h1, h2, h3, h4, h5, h6, ⟨e, he0, he1, he2, he3⟩, h7, h8⟩
    dsimp only at h0 h1 h2 h3 h4 h5 h6 he2 he3 h7 h8 ⊢
    by_cases hi : i < len
    · have hx := hS (getI edR.dflt L i) (getI_mem _ _ _ h0 (by omega))
      rw [drop_get edR.dflt L i h0 (by omega)] at h6 h8 he2
      simp only [fitGo] at h8
      simp only [undoGo] at h6
      simp only [chkGo] at he2
      have hne : ¬ ((getI edR.dflt L i).f < e ∨ (getI edR.dflt L i).t < (getI edR.dflt L i).f ∨ s.size < (getI edR.dflt L i).t) := by
        intro hh; rw [if_pos hh] at he2; omega
      rw [if_neg hne] at he2
      split at h8
      · cases h8
      rename_i hfit
      obtain ⟨E, hE2⟩ : ∃ E : Ed, E = ⟨(getI edR.dflt L i).f + m, (getI edR.dflt L i).f + m + (getI edR.dflt L i).s.size, s.extract (getI edR.dflt L i).f.toNat (getI edR.dflt L i).t.toNat⟩ := ⟨_, rfl⟩
      have hend : ∀ (o' : Option (Nat × Nat)) (acc' : List Ed) (n' : Int), acc' = acc ++ [E] → n' = n + 1 → (∀ b c, o' = some (b, c) → h.size ≤ b) → o' ≠ none →
          0 ≤ i + 1 ∧ i + 1 + ((μ - 1 : Nat) : Int) = len ∧ n' = acc'.length ∧ n' = i + 1 ∧ (o' = none → acc' = []) ∧ (∀ b c, o' = some (b, c) → h.size ≤ b) ∧ acc' ++ undoGo s (L.drop (i + 1).toNat) (m + ((getI edR.dflt L i).s.size - ((getI edR.dflt L i).t - (getI edR.dflt L i).f))) = R ∧
          (∃ e : Int, 0 ≤ e ∧ e ≤ s.size ∧ chkGo s.size (L.drop (i + 1).toNat) e = 0 ∧ -e ≤ m + ((getI edR.dflt L i).s.size - ((getI edR.dflt L i).t - (getI edR.dflt L i).f))) ∧ m + ((getI edR.dflt L i).s.size - ((getI edR.dflt L i).t - (getI edR.dflt L i).f)) ≤ 262144 ∧
          fitGo s.size (L.drop (i + 1).toNat) (s.size + (m + ((getI edR.dflt L i).s.size - ((getI edR.dflt L i).t - (getI edR.dflt L i).f)))) = some N := by
        intro o' acc' n' ha hn ho1 ho2
        refine ⟨by omega, by omega, by rw [hn, h2, ha]; simp, by omega, fun hh => absurd hh ho2, ho1, ?_, ⟨(getI edR.dflt L i).t, by omega, by omega, he2, by omega⟩, by omega, ?_⟩
        · rw [ha, ← h6, hE2]; simp
        · rw [← h8]; congr 1; omega
      rcases o with _ | ⟨b0, c0⟩
      · dsimp only [slK, slC]
        have h4' := h4 rfl
        subst h4'
        ((repeat' ((conv => whnf); (first | (refine drawnW tysOk mixed (.pull 0 [15, 16] (.pull 1 [13, 14, 15, 16] (.pull 2 [6, 13, 14, 15, 16] (.pull 3 [4, 5, 6, 13, 14, 15, 16] (.pull 7 [12, 13, 14, 15, 16] (.pull 8 [9, 12, 13, 14, 15, 16] (.pull 10 [11, 12, 13, 14, 15, 16] (.pull 4 [5, 6, 13, 14, 15, 16] (.pull 5 [6, 13, 14, 15, 16] (.pull 6 [13, 14, 15, 16] (.pull 9 [12, 13, 14, 15, 16] (.pull 11 [12, 13, 14, 15, 16] (.pull 12 [13, 14, 15, 16] (.pull 13 [14, 15, 16] (.one 14 (.one 15 (.pull 16 [] .done))))))))))))))))) (by kernel_rfl) (by kernel_rfl) ?_) | (refine Ar.fit (by omega) ?_) | (refine VC.mk (by (first | omega | rfl | assumption | exact Sl.plain (by assumption) (by omega) | (and_intros <;> first | omega | rfl | assumption | (simp only [List.length_set]; omega) | (simp only [ByteArray.size_extract, ByteArray.size_append]; omega) | (simp only [List.length_cons, List.length_nil]; omega) | (simp only [Int.toNat_natCast, Int.toNat_one, List.length_take, List.length_cons, List.length_nil] at *; omega)))) ?_) | (refine Br.mk ?_ ?_ <;> intro hb <;> (try (first | (exfalso; omega) | exact absurd rfl hb | exact Bool.noConfusion hb | exact absurd (fun e => Bool.noConfusion e) hb | (exfalso; simp only [List.length_cons, List.length_nil] at hb; omega) | (exfalso; simp only [Int.toNat_natCast, Int.toNat_one, List.length_take, List.length_cons, List.length_nil] at hb; omega)))) | (refine XLoad.of (by assumption) rfl rfl (by omega) (by omega) rfl ?_) | (refine New.mk ?_; intro b hb) | (refine New2.mk ?_; intro b c hb hbc) | (refine SameR.same ?_) | (refine Two.mk ?_ ?_) | (refine ed_eql ?_) | (refine ed_neq ?_) | (refine drawn tysOk mixed (by kernel_rfl) ?_) | fail))); all_goals (try (conv => whnf)))
        refine ⟨μ - 1, ⟨some (b, c), [E], n + 1, _, i + 1⟩, hend (some (b, c)) [E] (n + 1) rfl rfl (fun b' c' h => by cases h; exact hb) (by simp), by omega, ?_, rfl, rfl, ?_⟩
        · subst hE2
          have h3' : n = 0 := by rw [h2]; rfl
          subst h3'
          ((repeat (refine ⟨rfl, ?_⟩)); trivial)
        · subst hE2
          exact ⟨rfl, rfl, trivial⟩
      · have hb0 := h5 b0 c0 rfl
        dsimp only [slK, slC]
        ((repeat' ((conv => whnf); (first | (refine drawnW tysOk mixed (.pull 0 [15, 16] (.pull 1 [13, 14, 15, 16] (.pull 2 [6, 13, 14, 15, 16] (.pull 3 [4, 5, 6, 13, 14, 15, 16] (.pull 7 [12, 13, 14, 15, 16] (.pull 8 [9, 12, 13, 14, 15, 16] (.pull 10 [11, 12, 13, 14, 15, 16] (.pull 4 [5, 6, 13, 14, 15, 16] (.pull 5 [6, 13, 14, 15, 16] (.pull 6 [13, 14, 15, 16] (.pull 9 [12, 13, 14, 15, 16] (.pull 11 [12, 13, 14, 15, 16] (.pull 12 [13, 14, 15, 16] (.pull 13 [14, 15, 16] (.one 14 (.one 15 (.pull 16 [] .done))))))))))))))))) (by kernel_rfl) (by kernel_rfl) ?_) | (refine Ar.fit (by omega) ?_) | (refine VC.mk (by (first | omega | rfl | assumption | exact Sl.plain (by assumption) (by omega) | (and_intros <;> first | omega | rfl | assumption | (simp only [List.length_set]; omega) | (simp only [ByteArray.size_extract, ByteArray.size_append]; omega) | (simp only [List.length_cons, List.length_nil]; omega) | (simp only [Int.toNat_natCast, Int.toNat_one, List.length_take, List.length_cons, List.length_nil] at *; omega)))) ?_) | (refine Br.mk ?_ ?_ <;> intro hb <;> (try (first | (exfalso; omega) | exact absurd rfl hb | exact Bool.noConfusion hb | exact absurd (fun e => Bool.noConfusion e) hb | (exfalso; simp only [List.length_cons, List.length_nil] at hb; omega) | (exfalso; simp only [Int.toNat_natCast, Int.toNat_one, List.length_take, List.length_cons, List.length_nil] at hb; omega)))) | (refine XLoad.of (by assumption) rfl rfl (by omega) (by omega) rfl ?_) | (refine New.mk ?_; intro b hb) | (refine New2.mk ?_; intro b c hb hbc) | (refine SameR.same ?_) | (refine Two.mk ?_ ?_) | (refine ed_eql ?_) | (refine ed_neq ?_) | (refine drawn tysOk mixed (by kernel_rfl) ?_) | fail))); all_goals (try (conv => whnf)))
        have hn2 : acc.take n.toNat = acc := List.take_of_length_le (by omega)
        refine ⟨μ - 1, ⟨some (b, c), acc ++ [E], n + 1, _, i + 1⟩, hend (some (b, c)) (acc ++ [E]) (n + 1) rfl rfl (fun b' c' h => by cases h; exact hb) (by simp), by omega, ?_, rfl, rfl, ?_⟩
        · subst hE2
          ((repeat (refine ⟨rfl, ?_⟩)); trivial)
        · subst hE2
          exact ⟨by rw [hn2]; rfl, rfl, trivial⟩
    · rw [drop_all L i (by omega)] at h6
      have hR2 : acc = R := by rw [← h6]; simp [undoGo]
      rcases o with _ | ⟨b0, c0⟩
      · dsimp only [slK, slC]
        ((repeat' ((conv => whnf); (first | (refine Ar.fit (by omega) ?_) | (refine VC.mk (by (first | omega | rfl | assumption | exact Sl.plain (by assumption) (by omega) | (and_intros <;> first | omega | rfl | assumption | (simp only [List.length_set]; omega) | (simp only [ByteArray.size_extract, ByteArray.size_append]; omega) | (simp only [List.length_cons, List.length_nil]; omega) | (simp only [Int.toNat_natCast, Int.toNat_one, List.length_take, List.length_cons, List.length_nil] at *; omega)))) ?_) | (refine Br.mk ?_ ?_ <;> intro hb <;> (try (first | (exfalso; omega) | exact absurd rfl hb | exact Bool.noConfusion hb | exact absurd (fun e => Bool.noConfusion e) hb | (exfalso; simp only [List.length_cons, List.length_nil] at hb; omega) | (exfalso; simp only [Int.toNat_natCast, Int.toNat_one, List.length_take, List.length_cons, List.length_nil] at hb; omega)))) | (refine XLoad.of (by assumption) rfl rfl (by omega) (by omega) rfl ?_) | (refine New.mk ?_; intro b hb) | (refine New2.mk ?_; intro b c hb hbc) | (refine SameR.same ?_) | (refine Two.mk ?_ ?_) | (refine ed_eql ?_) | (refine ed_neq ?_) | (refine drawn tysOk mixed (by kernel_rfl) ?_) | fail))); all_goals (try (conv => whnf)))
        exact ⟨fun h' hs' => ⟨_, rfl, by rw [← hR2, h4 rfl]; exact .nil, hs'.grows⟩⟩
      · dsimp only [slK, slC]
        ((repeat' ((conv => whnf); (first | (refine Ar.fit (by omega) ?_) | (refine VC.mk (by (first | omega | rfl | assumption | exact Sl.plain (by assumption) (by omega) | (and_intros <;> first | omega | rfl | assumption | (simp only [List.length_set]; omega) | (simp only [ByteArray.size_extract, ByteArray.size_append]; omega) | (simp only [List.length_cons, List.length_nil]; omega) | (simp only [Int.toNat_natCast, Int.toNat_one, List.length_take, List.length_cons, List.length_nil] at *; omega)))) ?_) | (refine Br.mk ?_ ?_ <;> intro hb <;> (try (first | (exfalso; omega) | exact absurd rfl hb | exact Bool.noConfusion hb | exact absurd (fun e => Bool.noConfusion e) hb | (exfalso; simp only [List.length_cons, List.length_nil] at hb; omega) | (exfalso; simp only [Int.toNat_natCast, Int.toNat_one, List.length_take, List.length_cons, List.length_nil] at hb; omega)))) | (refine XLoad.of (by assumption) rfl rfl (by omega) (by omega) rfl ?_) | (refine New.mk ?_; intro b hb) | (refine New2.mk ?_; intro b c hb hbc) | (refine SameR.same ?_) | (refine Two.mk ?_ ?_) | (refine ed_eql ?_) | (refine ed_neq ?_) | (refine drawn tysOk mixed (by kernel_rfl) ?_) | fail))); all_goals (try (conv => whnf)))
        exact ⟨fun h' hs' => ⟨_, rfl, by rw [← hR2]; exact hs'.own (k := 47) rfl h2, hs'.grows⟩⟩
end Go.Ex
