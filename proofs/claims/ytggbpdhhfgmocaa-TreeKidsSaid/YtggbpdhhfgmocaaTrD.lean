/-
  Tree: what the calls of the program give.
-/
import Derived.Test.YtggbpdhhfgmocaaTrC
namespace Go.Ex
open Go.Proofs
set_option linter.unusedVariables false

abbrev mostT : Int := 131072
noncomputable def EL (L : List Nd) : List Int := Classical.epsilon fun E => EndsOk L E
noncomputable def UL (L : List Nd) : List Int := Classical.epsilon fun U => UpsOk L (EL L) U
noncomputable def DL (L : List Nd) : Int := Classical.epsilon fun d => ∃ D, DeepOk L (UL L) d D
theorem EL_eq {L : List Nd} {E : List Int} (h : EndsOk L E) : EL L = E := (Classical.epsilon_spec (p := fun E => EndsOk L E) ⟨E, h⟩).uniq h
theorem UpsOk.uniq {L : List Nd} {E U U' : List Int} (h : UpsOk L E U) (h' : UpsOk L E U') : U = U' :=
  getI_ext (h.len.trans h'.len.symm) fun i h0 h1 => by
    rw [h.len] at h1
    rcases h.at_ i h0 h1 with ⟨a1, a2⟩ | ⟨a1, a2, a3, a4, a5⟩ <;> rcases h'.at_ i h0 h1 with ⟨b1, b2⟩ | ⟨b1, b2, b3, b4, b5⟩
    · omega
    · omega
    · omega
    · by_cases q : getI 0 U i < getI 0 U' i
      · have := a5 _ q b3; omega
      · by_cases q' : getI 0 U' i < getI 0 U i
        · have := b5 _ q' a3; omega
        · omega
theorem UL_eq {L : List Nd} {E U : List Int} (h : EndsOk L E) (hU : UpsOk L E U) : UL L = U := by
  have e := EL_eq h
  have h2 : UpsOk L (EL L) (UL L) := Classical.epsilon_spec (p := fun U => UpsOk L (EL L) U) ⟨U, by rw [e]; exact hU⟩
  rw [e] at h2
  exact h2.uniq hU
theorem DeepOk.uniq {L : List Nd} {E U : List Int} {d d' : Int} {D D' : Int → Int} (hU : UpsOk L E U) (h : DeepOk L U d D) (h' : DeepOk L U d' D') : d = d' := by
  have key : ∀ (n : Nat) (j : Int), 0 ≤ j → j < L.length → j < n → D j = D' j := by
    intro n
    induction n with
    | zero => intro j h0 _ h1; omega
    | succ n ih =>
      intro j h0 h1 h2
      rcases h.up j h0 h1 with ⟨a, b⟩ | ⟨a, b⟩ <;> rcases h'.up j h0 h1 with ⟨a', b'⟩ | ⟨a', b'⟩
      · omega
      · omega
      · omega
      · rcases hU.at_ j h0 h1 with ⟨c, _⟩ | ⟨_, c1, c2, _⟩
        · omega
        · have := ih (getI 0 U j) c1 (by omega) (by omega); omega
  obtain ⟨j, j0, j1, j2⟩ := h.ex
  obtain ⟨k, k0, k1, k2⟩ := h'.ex
  have e1 := key (j.toNat + 1) j j0 j1 (by omega)
  have e2 := key (k.toNat + 1) k k0 k1 (by omega)
  have := (h'.le j j0 j1).1
  have := (h.le k k0 k1).1
  omega
theorem DL_eq {L : List Nd} {E U : List Int} {d : Int} {D : Int → Int} (h : EndsOk L E) (hU : UpsOk L E U) (hd : DeepOk L U d D) : DL L = d := by
  have e := UL_eq h hU
  have h2 : ∃ D, DeepOk L (UL L) (DL L) D := Classical.epsilon_spec (p := fun d => ∃ D, DeepOk L (UL L) d D) ⟨d, D, by rw [e]; exact hd⟩
  rw [e] at h2
  obtain ⟨D', h3⟩ := h2
  exact DeepOk.uniq hU h3 hd
/-- a tree of as many tokens as there may be, and a node of it -/
def Has (L : List Nd) (i : Int) : Prop := TreeP L mostT ∧ 0 ≤ i ∧ i < L.length
noncomputable def endV (L : List Nd) (i : Int) : Int := @ite _ (Has L i) (Classical.propDecidable _) (getI 0 (EL L) i) (-1)
noncomputable def upV (L : List Nd) (i : Int) : Int := @ite _ (Has L i) (Classical.propDecidable _) (getI 0 (UL L) i) (-1)
noncomputable def depthV (L : List Nd) : Int := @ite _ (TreeP L mostT) (Classical.propDecidable _) (DL L) 0
noncomputable def checkV (L : List Nd) (n : Int) : Int := if n < 0 ∨ 131072 < n then 1 else @ite _ (TreeP L n) (Classical.propDecidable _) 0 8
/-- the last one, up to i, of the nodes that have a token -/
def overGo (L : List Nd) (t : Int) : Nat → Int
  | 0 => -1
  | i + 1 => if (nd L i).f ≤ t ∧ t < (nd L i).t then i else overGo L t i
noncomputable def overV (L : List Nd) (t : Int) : Int := @ite _ (TreeP L mostT) (Classical.propDecidable _) (overGo L t L.length) (-1)
set_option maxHeartbeats 1000000 in
set_option maxRecDepth 10000 in
theorem check_any (A : Option Addr) (len cap : Nat) (L : List Nd) (n : Int) (h : Heap) (hA : Sl ndR h A len L) (hr : len * 40 ≤ 140737488355328) :
    CallsH Try.prog 8 #[.slice A len cap, .int .i64 n] h fun v h' => v = .int .i64 (checkV L n) ∧ Grows h h' := by
  refine enter (rep := rep) (m := 9) (ex := []) (cu := []) tysOk Try.func8 rfl (by decide) (rs := [.tmp 4]) rfl rfl [.val (.slice A len cap), .val (.int .i64 n)] rfl ?_
  ((repeat' ((conv => whnf); (first | (refine Ar.fit (by omega) ?_) | (refine VC.mk (by (first | omega | rfl | assumption | exact Sl.plain (by assumption) (by omega) | (and_intros <;> first | omega | rfl | assumption | (simp only [List.length_set]; omega) | (simp only [ByteArray.size_extract, ByteArray.size_append]; omega) | (simp only [List.length_cons, List.length_nil]; omega) | (simp only [Int.toNat_natCast, Int.toNat_one, List.length_take, List.length_cons, List.length_nil] at *; omega)))) ?_) | (refine Br.mk ?_ ?_ <;> intro hb <;> (try (first | (exfalso; omega) | exact absurd rfl hb | exact Bool.noConfusion hb | exact absurd (fun e => Bool.noConfusion e) hb | (exfalso; simp only [List.length_cons, List.length_nil] at hb; omega) | (exfalso; simp only [Int.toNat_natCast, Int.toNat_one, List.length_take, List.length_cons, List.length_nil] at hb; omega)))) | (refine XLoad.of (by assumption) rfl rfl (by omega) (by omega) rfl ?_) | (refine New.mk ?_; intro b hb) | (refine New2.mk ?_; intro b c hb hbc) | (refine SameR.same ?_) | (refine Two.mk ?_ ?_) | (refine ed_eql ?_) | (refine ed_neq ?_) | (refine drawn tysOk mixed (by kernel_rfl) ?_) | fail))); all_goals (try (conv => whnf)))
  · exact ⟨fun h' hs => ⟨int_eq (by rw [checkV, if_pos (by omega)]), hs.grows⟩⟩
  · exact ⟨fun h' hs => ⟨int_eq (by rw [checkV, if_pos (by omega)]), hs.grows⟩⟩
  refine CallK.epoch (fun h1 hq => outline_any A len cap L n h1 (hA.grows hq.grows) hr) ?_
  rintro h1 u h2 hq ⟨hg, x, y, d, b, E, U, rfl, hX, hY, hT, hF⟩
  obtain ⟨X, xl, xc, rfl, hE⟩ := hX.sl
  obtain ⟨Y, yl, yc, rfl, hU⟩ := hY.sl
  have hg0 := hq.grows.trans hg
  rcases b with _ | _
  · have hno : ¬ TreeP L n := fun h => (by cases hT.2 h)
    ((repeat' ((conv => whnf); (first | (refine Ar.fit (by omega) ?_) | (refine VC.mk (by (first | omega | rfl | assumption | exact Sl.plain (by assumption) (by omega) | (and_intros <;> first | omega | rfl | assumption | (simp only [List.length_set]; omega) | (simp only [ByteArray.size_extract, ByteArray.size_append]; omega) | (simp only [List.length_cons, List.length_nil]; omega) | (simp only [Int.toNat_natCast, Int.toNat_one, List.length_take, List.length_cons, List.length_nil] at *; omega)))) ?_) | (refine Br.mk ?_ ?_ <;> intro hb <;> (try (first | (exfalso; omega) | exact absurd rfl hb | exact Bool.noConfusion hb | exact absurd (fun e => Bool.noConfusion e) hb | (exfalso; simp only [List.length_cons, List.length_nil] at hb; omega) | (exfalso; simp only [Int.toNat_natCast, Int.toNat_one, List.length_take, List.length_cons, List.length_nil] at hb; omega)))) | (refine XLoad.of (by assumption) rfl rfl (by omega) (by omega) rfl ?_) | (refine New.mk ?_; intro b hb) | (refine New2.mk ?_; intro b c hb hbc) | (refine SameR.same ?_) | (refine Two.mk ?_ ?_) | (refine ed_eql ?_) | (refine ed_neq ?_) | (refine drawn tysOk mixed (by kernel_rfl) ?_) | fail))); all_goals (try (conv => whnf)))
    exact ⟨fun h' hs => ⟨int_eq (by rw [checkV, if_neg (by omega), if_neg hno]), hg0.trans hs.grows⟩⟩
  · have hyes : TreeP L n := hT.1 rfl
    ((repeat' ((conv => whnf); (first | (refine Ar.fit (by omega) ?_) | (refine VC.mk (by (first | omega | rfl | assumption | exact Sl.plain (by assumption) (by omega) | (and_intros <;> first | omega | rfl | assumption | (simp only [List.length_set]; omega) | (simp only [ByteArray.size_extract, ByteArray.size_append]; omega) | (simp only [List.length_cons, List.length_nil]; omega) | (simp only [Int.toNat_natCast, Int.toNat_one, List.length_take, List.length_cons, List.length_nil] at *; omega)))) ?_) | (refine Br.mk ?_ ?_ <;> intro hb <;> (try (first | (exfalso; omega) | exact absurd rfl hb | exact Bool.noConfusion hb | exact absurd (fun e => Bool.noConfusion e) hb | (exfalso; simp only [List.length_cons, List.length_nil] at hb; omega) | (exfalso; simp only [Int.toNat_natCast, Int.toNat_one, List.length_take, List.length_cons, List.length_nil] at hb; omega)))) | (refine XLoad.of (by assumption) rfl rfl (by omega) (by omega) rfl ?_) | (refine New.mk ?_; intro b hb) | (refine New2.mk ?_; intro b c hb hbc) | (refine SameR.same ?_) | (refine Two.mk ?_ ?_) | (refine ed_eql ?_) | (refine ed_neq ?_) | (refine drawn tysOk mixed (by kernel_rfl) ?_) | fail))); all_goals (try (conv => whnf)))
    exact ⟨fun h' hs => ⟨int_eq (by rw [checkV, if_neg (by omega), if_pos hyes]), hg0.trans hs.grows⟩⟩
set_option maxHeartbeats 1000000 in
set_option maxRecDepth 10000 in
theorem end_any (A : Option Addr) (len cap : Nat) (L : List Nd) (i : Int) (h : Heap) (hA : Sl ndR h A len L) (hr : len * 40 ≤ 140737488355328) :
    CallsH Try.prog 13 #[.slice A len cap, .int .i64 i] h fun v h' => v = .int .i64 (endV L i) ∧ Grows h h' := by
  refine enter (rep := rep) (m := 9) (ex := []) (cu := []) tysOk Try.func13 rfl (by decide) (rs := [.tmp 4]) rfl rfl [.val (.slice A len cap), .val (.int .i64 i)] rfl ?_
  have hL := hA.len_eq
  ((repeat' ((conv => whnf); (first | (refine Ar.fit (by omega) ?_) | (refine VC.mk (by (first | omega | rfl | assumption | exact Sl.plain (by assumption) (by omega) | (and_intros <;> first | omega | rfl | assumption | (simp only [List.length_set]; omega) | (simp only [ByteArray.size_extract, ByteArray.size_append]; omega) | (simp only [List.length_cons, List.length_nil]; omega) | (simp only [Int.toNat_natCast, Int.toNat_one, List.length_take, List.length_cons, List.length_nil] at *; omega)))) ?_) | (refine Br.mk ?_ ?_ <;> intro hb <;> (try (first | (exfalso; omega) | exact absurd rfl hb | exact Bool.noConfusion hb | exact absurd (fun e => Bool.noConfusion e) hb | (exfalso; simp only [List.length_cons, List.length_nil] at hb; omega) | (exfalso; simp only [Int.toNat_natCast, Int.toNat_one, List.length_take, List.length_cons, List.length_nil] at hb; omega)))) | (refine XLoad.of (by assumption) rfl rfl (by omega) (by omega) rfl ?_) | (refine New.mk ?_; intro b hb) | (refine New2.mk ?_; intro b c hb hbc) | (refine SameR.same ?_) | (refine Two.mk ?_ ?_) | (refine ed_eql ?_) | (refine ed_neq ?_) | (refine drawn tysOk mixed (by kernel_rfl) ?_) | fail))); all_goals (try (conv => whnf)))
  refine CallK.epoch (fun h1 hq => outline_any A len cap L 131072 h1 (hA.grows hq.grows) hr) ?_
  rintro h1 u h2 hq ⟨hg, x, y, d, b, E, U, rfl, hX, hY, hT, hF⟩
  obtain ⟨X, xl, xc, rfl, hE⟩ := hX.sl
  obtain ⟨Y, yl, yc, rfl, hU⟩ := hY.sl
  have hg0 := hq.grows.trans hg
  rcases b with _ | _
  · have hno : ¬ Has L i := fun h => (by cases hT.2 h.1)
    ((repeat' ((conv => whnf); (first | (refine Ar.fit (by omega) ?_) | (refine VC.mk (by (first | omega | rfl | assumption | exact Sl.plain (by assumption) (by omega) | (and_intros <;> first | omega | rfl | assumption | (simp only [List.length_set]; omega) | (simp only [ByteArray.size_extract, ByteArray.size_append]; omega) | (simp only [List.length_cons, List.length_nil]; omega) | (simp only [Int.toNat_natCast, Int.toNat_one, List.length_take, List.length_cons, List.length_nil] at *; omega)))) ?_) | (refine Br.mk ?_ ?_ <;> intro hb <;> (try (first | (exfalso; omega) | exact absurd rfl hb | exact Bool.noConfusion hb | exact absurd (fun e => Bool.noConfusion e) hb | (exfalso; simp only [List.length_cons, List.length_nil] at hb; omega) | (exfalso; simp only [Int.toNat_natCast, Int.toNat_one, List.length_take, List.length_cons, List.length_nil] at hb; omega)))) | (refine XLoad.of (by assumption) rfl rfl (by omega) (by omega) rfl ?_) | (refine New.mk ?_; intro b hb) | (refine New2.mk ?_; intro b c hb hbc) | (refine SameR.same ?_) | (refine Two.mk ?_ ?_) | (refine ed_eql ?_) | (refine ed_neq ?_) | (refine drawn tysOk mixed (by kernel_rfl) ?_) | fail))); all_goals (try (conv => whnf)))
    exact ⟨fun h' hs => ⟨int_eq (by rw [endV, if_neg hno]), hg0.trans hs.grows⟩⟩
  · have hyes : TreeP L mostT := hT.1 rfl
    obtain ⟨q1, q2, D, q3⟩ := hF rfl
    have hxl := hE.len_eq
    have hl := q1.len
    by_cases hi : 0 ≤ i ∧ i < len
    · ((repeat' ((conv => whnf); (first | (refine Ar.fit (by omega) ?_) | (refine VC.mk (by (first | omega | rfl | assumption | exact Sl.plain (by assumption) (by omega) | (and_intros <;> first | omega | rfl | assumption | (simp only [List.length_set]; omega) | (simp only [ByteArray.size_extract, ByteArray.size_append]; omega) | (simp only [List.length_cons, List.length_nil]; omega) | (simp only [Int.toNat_natCast, Int.toNat_one, List.length_take, List.length_cons, List.length_nil] at *; omega)))) ?_) | (refine Br.mk ?_ ?_ <;> intro hb <;> (try (first | (exfalso; omega) | exact absurd rfl hb | exact Bool.noConfusion hb | exact absurd (fun e => Bool.noConfusion e) hb | (exfalso; simp only [List.length_cons, List.length_nil] at hb; omega) | (exfalso; simp only [Int.toNat_natCast, Int.toNat_one, List.length_take, List.length_cons, List.length_nil] at hb; omega)))) | (refine XLoad.of (by assumption) rfl rfl (by omega) (by omega) rfl ?_) | (refine New.mk ?_; intro b hb) | (refine New2.mk ?_; intro b c hb hbc) | (refine SameR.same ?_) | (refine Two.mk ?_ ?_) | (refine ed_eql ?_) | (refine ed_neq ?_) | (refine drawn tysOk mixed (by kernel_rfl) ?_) | fail))); all_goals (try (conv => whnf)))
      exact ⟨fun h' hs => ⟨int_eq (by rw [endV, if_pos ⟨hyes, by omega, by omega⟩, EL_eq q1]; rfl), hg0.trans hs.grows⟩⟩
    · have hno : ¬ Has L i := fun h => by have := h.2; omega
      ((repeat' ((conv => whnf); (first | (refine Ar.fit (by omega) ?_) | (refine VC.mk (by (first | omega | rfl | assumption | exact Sl.plain (by assumption) (by omega) | (and_intros <;> first | omega | rfl | assumption | (simp only [List.length_set]; omega) | (simp only [ByteArray.size_extract, ByteArray.size_append]; omega) | (simp only [List.length_cons, List.length_nil]; omega) | (simp only [Int.toNat_natCast, Int.toNat_one, List.length_take, List.length_cons, List.length_nil] at *; omega)))) ?_) | (refine Br.mk ?_ ?_ <;> intro hb <;> (try (first | (exfalso; omega) | exact absurd rfl hb | exact Bool.noConfusion hb | exact absurd (fun e => Bool.noConfusion e) hb | (exfalso; simp only [List.length_cons, List.length_nil] at hb; omega) | (exfalso; simp only [Int.toNat_natCast, Int.toNat_one, List.length_take, List.length_cons, List.length_nil] at hb; omega)))) | (refine XLoad.of (by assumption) rfl rfl (by omega) (by omega) rfl ?_) | (refine New.mk ?_; intro b hb) | (refine New2.mk ?_; intro b c hb hbc) | (refine SameR.same ?_) | (refine Two.mk ?_ ?_) | (refine ed_eql ?_) | (refine ed_neq ?_) | (refine drawn tysOk mixed (by kernel_rfl) ?_) | fail))); all_goals (try (conv => whnf)))
      all_goals exact ⟨fun h' hs => ⟨int_eq (by rw [endV, if_neg hno]), hg0.trans hs.grows⟩⟩
set_option maxHeartbeats 1000000 in
set_option maxRecDepth 10000 in
theorem up_any (A : Option Addr) (len cap : Nat) (L : List Nd) (i : Int) (h : Heap) (hA : Sl ndR h A len L) (hr : len * 40 ≤ 140737488355328) :
    CallsH Try.prog 14 #[.slice A len cap, .int .i64 i] h fun v h' => v = .int .i64 (upV L i) ∧ Grows h h' := by
  refine enter (rep := rep) (m := 9) (ex := []) (cu := []) tysOk Try.func14 rfl (by decide) (rs := [.tmp 4]) rfl rfl [.val (.slice A len cap), .val (.int .i64 i)] rfl ?_
  have hL := hA.len_eq
  ((repeat' ((conv => whnf); (first | (refine Ar.fit (by omega) ?_) | (refine VC.mk (by (first | omega | rfl | assumption | exact Sl.plain (by assumption) (by omega) | (and_intros <;> first | omega | rfl | assumption | (simp only [List.length_set]; omega) | (simp only [ByteArray.size_extract, ByteArray.size_append]; omega) | (simp only [List.length_cons, List.length_nil]; omega) | (simp only [Int.toNat_natCast, Int.toNat_one, List.length_take, List.length_cons, List.length_nil] at *; omega)))) ?_) | (refine Br.mk ?_ ?_ <;> intro hb <;> (try (first | (exfalso; omega) | exact absurd rfl hb | exact Bool.noConfusion hb | exact absurd (fun e => Bool.noConfusion e) hb | (exfalso; simp only [List.length_cons, List.length_nil] at hb; omega) | (exfalso; simp only [Int.toNat_natCast, Int.toNat_one, List.length_take, List.length_cons, List.length_nil] at hb; omega)))) | (refine XLoad.of (by assumption) rfl rfl (by omega) (by omega) rfl ?_) | (refine New.mk ?_; intro b hb) | (refine New2.mk ?_; intro b c hb hbc) | (refine SameR.same ?_) | (refine Two.mk ?_ ?_) | (refine ed_eql ?_) | (refine ed_neq ?_) | (refine drawn tysOk mixed (by kernel_rfl) ?_) | fail))); all_goals (try (conv => whnf)))
  refine CallK.epoch (fun h1 hq => outline_any A len cap L 131072 h1 (hA.grows hq.grows) hr) ?_
  rintro h1 u h2 hq ⟨hg, x, y, d, b, E, U, rfl, hX, hY, hT, hF⟩
  obtain ⟨X, xl, xc, rfl, hE⟩ := hX.sl
  obtain ⟨Y, yl, yc, rfl, hU⟩ := hY.sl
  have hg0 := hq.grows.trans hg
  rcases b with _ | _
  · have hno : ¬ Has L i := fun h => (by cases hT.2 h.1)
    ((repeat' ((conv => whnf); (first | (refine Ar.fit (by omega) ?_) | (refine VC.mk (by (first | omega | rfl | assumption | exact Sl.plain (by assumption) (by omega) | (and_intros <;> first | omega | rfl | assumption | (simp only [List.length_set]; omega) | (simp only [ByteArray.size_extract, ByteArray.size_append]; omega) | (simp only [List.length_cons, List.length_nil]; omega) | (simp only [Int.toNat_natCast, Int.toNat_one, List.length_take, List.length_cons, List.length_nil] at *; omega)))) ?_) | (refine Br.mk ?_ ?_ <;> intro hb <;> (try (first | (exfalso; omega) | exact absurd rfl hb | exact Bool.noConfusion hb | exact absurd (fun e => Bool.noConfusion e) hb | (exfalso; simp only [List.length_cons, List.length_nil] at hb; omega) | (exfalso; simp only [Int.toNat_natCast, Int.toNat_one, List.length_take, List.length_cons, List.length_nil] at hb; omega)))) | (refine XLoad.of (by assumption) rfl rfl (by omega) (by omega) rfl ?_) | (refine New.mk ?_; intro b hb) | (refine New2.mk ?_; intro b c hb hbc) | (refine SameR.same ?_) | (refine Two.mk ?_ ?_) | (refine ed_eql ?_) | (refine ed_neq ?_) | (refine drawn tysOk mixed (by kernel_rfl) ?_) | fail))); all_goals (try (conv => whnf)))
    exact ⟨fun h' hs => ⟨int_eq (by rw [upV, if_neg hno]), hg0.trans hs.grows⟩⟩
  · have hyes : TreeP L mostT := hT.1 rfl
    obtain ⟨q1, q2, D, q3⟩ := hF rfl
    have hxl := hU.len_eq
    have hl := q2.len
    by_cases hi : 0 ≤ i ∧ i < len
    · ((repeat' ((conv => whnf); (first | (refine Ar.fit (by omega) ?_) | (refine VC.mk (by (first | omega | rfl | assumption | exact Sl.plain (by assumption) (by omega) | (and_intros <;> first | omega | rfl | assumption | (simp only [List.length_set]; omega) | (simp only [ByteArray.size_extract, ByteArray.size_append]; omega) | (simp only [List.length_cons, List.length_nil]; omega) | (simp only [Int.toNat_natCast, Int.toNat_one, List.length_take, List.length_cons, List.length_nil] at *; omega)))) ?_) | (refine Br.mk ?_ ?_ <;> intro hb <;> (try (first | (exfalso; omega) | exact absurd rfl hb | exact Bool.noConfusion hb | exact absurd (fun e => Bool.noConfusion e) hb | (exfalso; simp only [List.length_cons, List.length_nil] at hb; omega) | (exfalso; simp only [Int.toNat_natCast, Int.toNat_one, List.length_take, List.length_cons, List.length_nil] at hb; omega)))) | (refine XLoad.of (by assumption) rfl rfl (by omega) (by omega) rfl ?_) | (refine New.mk ?_; intro b hb) | (refine New2.mk ?_; intro b c hb hbc) | (refine SameR.same ?_) | (refine Two.mk ?_ ?_) | (refine ed_eql ?_) | (refine ed_neq ?_) | (refine drawn tysOk mixed (by kernel_rfl) ?_) | fail))); all_goals (try (conv => whnf)))
      exact ⟨fun h' hs => ⟨int_eq (by rw [upV, if_pos ⟨hyes, by omega, by omega⟩, UL_eq q1 q2]; rfl), hg0.trans hs.grows⟩⟩
    · have hno : ¬ Has L i := fun h => by have := h.2; omega
      ((repeat' ((conv => whnf); (first | (refine Ar.fit (by omega) ?_) | (refine VC.mk (by (first | omega | rfl | assumption | exact Sl.plain (by assumption) (by omega) | (and_intros <;> first | omega | rfl | assumption | (simp only [List.length_set]; omega) | (simp only [ByteArray.size_extract, ByteArray.size_append]; omega) | (simp only [List.length_cons, List.length_nil]; omega) | (simp only [Int.toNat_natCast, Int.toNat_one, List.length_take, List.length_cons, List.length_nil] at *; omega)))) ?_) | (refine Br.mk ?_ ?_ <;> intro hb <;> (try (first | (exfalso; omega) | exact absurd rfl hb | exact Bool.noConfusion hb | exact absurd (fun e => Bool.noConfusion e) hb | (exfalso; simp only [List.length_cons, List.length_nil] at hb; omega) | (exfalso; simp only [Int.toNat_natCast, Int.toNat_one, List.length_take, List.length_cons, List.length_nil] at hb; omega)))) | (refine XLoad.of (by assumption) rfl rfl (by omega) (by omega) rfl ?_) | (refine New.mk ?_; intro b hb) | (refine New2.mk ?_; intro b c hb hbc) | (refine SameR.same ?_) | (refine Two.mk ?_ ?_) | (refine ed_eql ?_) | (refine ed_neq ?_) | (refine drawn tysOk mixed (by kernel_rfl) ?_) | fail))); all_goals (try (conv => whnf)))
      all_goals exact ⟨fun h' hs => ⟨int_eq (by rw [upV, if_neg hno]), hg0.trans hs.grows⟩⟩
set_option maxHeartbeats 1000000 in
set_option maxRecDepth 10000 in
theorem depth_any (A : Option Addr) (len cap : Nat) (L : List Nd) (h : Heap) (hA : Sl ndR h A len L) (hr : len * 40 ≤ 140737488355328) :
    CallsH Try.prog 15 #[.slice A len cap] h fun v h' => v = .int .i64 (depthV L) ∧ Grows h h' := by
  refine enter (rep := rep) (m := 7) (ex := []) (cu := []) tysOk Try.func15 rfl (by decide) (rs := [.tmp 2]) rfl rfl [.val (.slice A len cap)] rfl ?_
  have hL := hA.len_eq
  ((repeat' ((conv => whnf); (first | (refine Ar.fit (by omega) ?_) | (refine VC.mk (by (first | omega | rfl | assumption | exact Sl.plain (by assumption) (by omega) | (and_intros <;> first | omega | rfl | assumption | (simp only [List.length_set]; omega) | (simp only [ByteArray.size_extract, ByteArray.size_append]; omega) | (simp only [List.length_cons, List.length_nil]; omega) | (simp only [Int.toNat_natCast, Int.toNat_one, List.length_take, List.length_cons, List.length_nil] at *; omega)))) ?_) | (refine Br.mk ?_ ?_ <;> intro hb <;> (try (first | (exfalso; omega) | exact absurd rfl hb | exact Bool.noConfusion hb | exact absurd (fun e => Bool.noConfusion e) hb | (exfalso; simp only [List.length_cons, List.length_nil] at hb; omega) | (exfalso; simp only [Int.toNat_natCast, Int.toNat_one, List.length_take, List.length_cons, List.length_nil] at hb; omega)))) | (refine XLoad.of (by assumption) rfl rfl (by omega) (by omega) rfl ?_) | (refine New.mk ?_; intro b hb) | (refine New2.mk ?_; intro b c hb hbc) | (refine SameR.same ?_) | (refine Two.mk ?_ ?_) | (refine ed_eql ?_) | (refine ed_neq ?_) | (refine drawn tysOk mixed (by kernel_rfl) ?_) | fail))); all_goals (try (conv => whnf)))
  refine CallK.epoch (fun h1 hq => outline_any A len cap L 131072 h1 (hA.grows hq.grows) hr) ?_
  rintro h1 u h2 hq ⟨hg, x, y, d, b, E, U, rfl, hX, hY, hT, hF⟩
  obtain ⟨X, xl, xc, rfl, hE⟩ := hX.sl
  obtain ⟨Y, yl, yc, rfl, hU⟩ := hY.sl
  have hg0 := hq.grows.trans hg
  rcases b with _ | _
  · have hno : ¬ TreeP L mostT := fun h => (by cases hT.2 h)
    ((repeat' ((conv => whnf); (first | (refine Ar.fit (by omega) ?_) | (refine VC.mk (by (first | omega | rfl | assumption | exact Sl.plain (by assumption) (by omega) | (and_intros <;> first | omega | rfl | assumption | (simp only [List.length_set]; omega) | (simp only [ByteArray.size_extract, ByteArray.size_append]; omega) | (simp only [List.length_cons, List.length_nil]; omega) | (simp only [Int.toNat_natCast, Int.toNat_one, List.length_take, List.length_cons, List.length_nil] at *; omega)))) ?_) | (refine Br.mk ?_ ?_ <;> intro hb <;> (try (first | (exfalso; omega) | exact absurd rfl hb | exact Bool.noConfusion hb | exact absurd (fun e => Bool.noConfusion e) hb | (exfalso; simp only [List.length_cons, List.length_nil] at hb; omega) | (exfalso; simp only [Int.toNat_natCast, Int.toNat_one, List.length_take, List.length_cons, List.length_nil] at hb; omega)))) | (refine XLoad.of (by assumption) rfl rfl (by omega) (by omega) rfl ?_) | (refine New.mk ?_; intro b hb) | (refine New2.mk ?_; intro b c hb hbc) | (refine SameR.same ?_) | (refine Two.mk ?_ ?_) | (refine ed_eql ?_) | (refine ed_neq ?_) | (refine drawn tysOk mixed (by kernel_rfl) ?_) | fail))); all_goals (try (conv => whnf)))
    exact ⟨fun h' hs => ⟨int_eq (by rw [depthV, if_neg hno]), hg0.trans hs.grows⟩⟩
  · have hyes : TreeP L mostT := hT.1 rfl
    obtain ⟨q1, q2, D, q3⟩ := hF rfl
    ((repeat' ((conv => whnf); (first | (refine Ar.fit (by omega) ?_) | (refine VC.mk (by (first | omega | rfl | assumption | exact Sl.plain (by assumption) (by omega) | (and_intros <;> first | omega | rfl | assumption | (simp only [List.length_set]; omega) | (simp only [ByteArray.size_extract, ByteArray.size_append]; omega) | (simp only [List.length_cons, List.length_nil]; omega) | (simp only [Int.toNat_natCast, Int.toNat_one, List.length_take, List.length_cons, List.length_nil] at *; omega)))) ?_) | (refine Br.mk ?_ ?_ <;> intro hb <;> (try (first | (exfalso; omega) | exact absurd rfl hb | exact Bool.noConfusion hb | exact absurd (fun e => Bool.noConfusion e) hb | (exfalso; simp only [List.length_cons, List.length_nil] at hb; omega) | (exfalso; simp only [Int.toNat_natCast, Int.toNat_one, List.length_take, List.length_cons, List.length_nil] at hb; omega)))) | (refine XLoad.of (by assumption) rfl rfl (by omega) (by omega) rfl ?_) | (refine New.mk ?_; intro b hb) | (refine New2.mk ?_; intro b c hb hbc) | (refine SameR.same ?_) | (refine Two.mk ?_ ?_) | (refine ed_eql ?_) | (refine ed_neq ?_) | (refine drawn tysOk mixed (by kernel_rfl) ?_) | fail))); all_goals (try (conv => whnf)))
    exact ⟨fun h' hs => ⟨int_eq (by rw [depthV, if_pos hyes, DL_eq q1 q2 q3]), hg0.trans hs.grows⟩⟩
set_option maxHeartbeats 1000000 in
set_option maxRecDepth 10000 in
theorem over_any (A : Option Addr) (len cap : Nat) (L : List Nd) (t : Int) (h : Heap) (hA : Sl ndR h A len L) (hr : len * 40 ≤ 140737488355328) :
    CallsH Try.prog 11 #[.slice A len cap, .int .i64 t] h fun v h' => v = .int .i64 (overV L t) ∧ Grows h h' := by
  refine enter (rep := rep) (m := 10) (ex := []) (cu := []) tysOk Try.func11 rfl (by decide) (rs := [.tmp 4]) rfl rfl [.val (.slice A len cap), .val (.int .i64 t)] rfl ?_
  have hL := hA.len_eq
  ((repeat' ((conv => whnf); (first | (refine Ar.fit (by omega) ?_) | (refine VC.mk (by (first | omega | rfl | assumption | exact Sl.plain (by assumption) (by omega) | (and_intros <;> first | omega | rfl | assumption | (simp only [List.length_set]; omega) | (simp only [ByteArray.size_extract, ByteArray.size_append]; omega) | (simp only [List.length_cons, List.length_nil]; omega) | (simp only [Int.toNat_natCast, Int.toNat_one, List.length_take, List.length_cons, List.length_nil] at *; omega)))) ?_) | (refine Br.mk ?_ ?_ <;> intro hb <;> (try (first | (exfalso; omega) | exact absurd rfl hb | exact Bool.noConfusion hb | exact absurd (fun e => Bool.noConfusion e) hb | (exfalso; simp only [List.length_cons, List.length_nil] at hb; omega) | (exfalso; simp only [Int.toNat_natCast, Int.toNat_one, List.length_take, List.length_cons, List.length_nil] at hb; omega)))) | (refine XLoad.of (by assumption) rfl rfl (by omega) (by omega) rfl ?_) | (refine New.mk ?_; intro b hb) | (refine New2.mk ?_; intro b c hb hbc) | (refine SameR.same ?_) | (refine Two.mk ?_ ?_) | (refine ed_eql ?_) | (refine ed_neq ?_) | (refine drawn tysOk mixed (by kernel_rfl) ?_) | fail))); all_goals (try (conv => whnf)))
  refine CallK.epoch (fun h1 hq => outline_any A len cap L 131072 h1 (hA.grows hq.grows) hr) ?_
  rintro h1 u h2 hq ⟨hg, x, y, d, b, E, U, rfl, hX, hY, hT, hF⟩
  obtain ⟨X, xl, xc, rfl, hE⟩ := hX.sl
  obtain ⟨Y, yl, yc, rfl, hU⟩ := hY.sl
  have hg0 := hq.grows.trans hg
  have hA2 := hA.grows hg0
  rcases b with _ | _
  · have hno : ¬ TreeP L mostT := fun h => (by cases hT.2 h)
    ((repeat' ((conv => whnf); (first | (refine Ar.fit (by omega) ?_) | (refine VC.mk (by (first | omega | rfl | assumption | exact Sl.plain (by assumption) (by omega) | (and_intros <;> first | omega | rfl | assumption | (simp only [List.length_set]; omega) | (simp only [ByteArray.size_extract, ByteArray.size_append]; omega) | (simp only [List.length_cons, List.length_nil]; omega) | (simp only [Int.toNat_natCast, Int.toNat_one, List.length_take, List.length_cons, List.length_nil] at *; omega)))) ?_) | (refine Br.mk ?_ ?_ <;> intro hb <;> (try (first | (exfalso; omega) | exact absurd rfl hb | exact Bool.noConfusion hb | exact absurd (fun e => Bool.noConfusion e) hb | (exfalso; simp only [List.length_cons, List.length_nil] at hb; omega) | (exfalso; simp only [Int.toNat_natCast, Int.toNat_one, List.length_take, List.length_cons, List.length_nil] at hb; omega)))) | (refine XLoad.of (by assumption) rfl rfl (by omega) (by omega) rfl ?_) | (refine New.mk ?_; intro b hb) | (refine New2.mk ?_; intro b c hb hbc) | (refine SameR.same ?_) | (refine Two.mk ?_ ?_) | (refine ed_eql ?_) | (refine ed_neq ?_) | (refine drawn tysOk mixed (by kernel_rfl) ?_) | fail))); all_goals (try (conv => whnf)))
    exact ⟨fun h' hs => ⟨int_eq (by rw [overV, if_neg hno]), hg0.trans hs.grows⟩⟩
  · have hyes : TreeP L mostT := hT.1 rfl
    have hV : overV L t = overGo L t L.length := by rw [overV, if_pos hyes]
    rw [hV]
    obtain ⟨r, hr'⟩ : ∃ r, overGo L t L.length = r := ⟨_, rfl⟩
    rw [hr']
    clear hX hY
    ((repeat' ((conv => whnf); (first | (refine Ar.fit (by omega) ?_) | (refine VC.mk (by (first | omega | rfl | assumption | exact Sl.plain (by assumption) (by omega) | (and_intros <;> first | omega | rfl | assumption | (simp only [List.length_set]; omega) | (simp only [ByteArray.size_extract, ByteArray.size_append]; omega) | (simp only [List.length_cons, List.length_nil]; omega) | (simp only [Int.toNat_natCast, Int.toNat_one, List.length_take, List.length_cons, List.length_nil] at *; omega)))) ?_) | (refine Br.mk ?_ ?_ <;> intro hb <;> (try (first | (exfalso; omega) | exact absurd rfl hb | exact Bool.noConfusion hb | exact absurd (fun e => Bool.noConfusion e) hb | (exfalso; simp only [List.length_cons, List.length_nil] at hb; omega) | (exfalso; simp only [Int.toNat_natCast, Int.toNat_one, List.length_take, List.length_cons, List.length_nil] at hb; omega)))) | (refine XLoad.of (by assumption) rfl rfl (by omega) (by omega) rfl ?_) | (refine New.mk ?_; intro b hb) | (refine New2.mk ?_; intro b c hb hbc) | (refine SameR.same ?_) | (refine Two.mk ?_ ?_) | (refine ed_eql ?_) | (refine ed_neq ?_) | (refine drawn tysOk mixed (by kernel_rfl) ?_) | fail))); all_goals (try (conv => whnf)))
    refine loop_rule tysOk [9] (fun x : Int => [(9, .val (.int .i64 x))]) (fun _ => []) (fun μ x => -1 ≤ x ∧ x < len ∧ μ = x + 1 ∧ overGo L t (x + 1).toNat = r) len ((len : Int) - 1) ?_
    conv => whnf
    refine ⟨by ((repeat (refine ⟨rfl, ?_⟩)); trivial), trivial, ⟨by omega, by omega, by omega, by rw [show ((len : Int) - 1 + 1).toNat = L.length by omega]; exact hr'⟩, ?_⟩
    rintro μ i ⟨h0, h1, h3, h4⟩
    by_cases hi : 0 ≤ i
    · rw [show (i + 1).toNat = i.toNat + 1 by omega] at h4
      simp only [overGo, nd] at h4
      rw [show ((i.toNat : Nat) : Int) = i by omega] at h4
      ((repeat' ((conv => whnf); (first | (refine Ar.fit (by omega) ?_) | (refine VC.mk (by (first | omega | rfl | assumption | exact Sl.plain (by assumption) (by omega) | (and_intros <;> first | omega | rfl | assumption | (simp only [List.length_set]; omega) | (simp only [ByteArray.size_extract, ByteArray.size_append]; omega) | (simp only [List.length_cons, List.length_nil]; omega) | (simp only [Int.toNat_natCast, Int.toNat_one, List.length_take, List.length_cons, List.length_nil] at *; omega)))) ?_) | (refine Br.mk ?_ ?_ <;> intro hb <;> (try (first | (exfalso; omega) | exact absurd rfl hb | exact Bool.noConfusion hb | exact absurd (fun e => Bool.noConfusion e) hb | (exfalso; simp only [List.length_cons, List.length_nil] at hb; omega) | (exfalso; simp only [Int.toNat_natCast, Int.toNat_one, List.length_take, List.length_cons, List.length_nil] at hb; omega)))) | (refine XLoad.of (by assumption) rfl rfl (by omega) (by omega) rfl ?_) | (refine New.mk ?_; intro b hb) | (refine New2.mk ?_; intro b c hb hbc) | (refine SameR.same ?_) | (refine Two.mk ?_ ?_) | (refine ed_eql ?_) | (refine ed_neq ?_) | (refine drawn tysOk mixed (by kernel_rfl) ?_) | fail))); all_goals (try (conv => whnf)))
      · rw [if_pos (by omega)] at h4
        exact ⟨fun h' hs => ⟨int_eq h4, hg0.trans hs.grows⟩⟩
      all_goals
        rw [if_neg (by omega)] at h4
        refine ⟨μ - 1, i - 1, ⟨by omega, by omega, by omega, by rw [show i - 1 + 1 = i by omega]; exact h4⟩, by omega, by ((repeat (refine ⟨rfl, ?_⟩)); trivial), rfl, rfl, trivial⟩
    · rw [show (i + 1).toNat = 0 by omega] at h4
      simp only [overGo] at h4
      ((repeat' ((conv => whnf); (first | (refine Ar.fit (by omega) ?_) | (refine VC.mk (by (first | omega | rfl | assumption | exact Sl.plain (by assumption) (by omega) | (and_intros <;> first | omega | rfl | assumption | (simp only [List.length_set]; omega) | (simp only [ByteArray.size_extract, ByteArray.size_append]; omega) | (simp only [List.length_cons, List.length_nil]; omega) | (simp only [Int.toNat_natCast, Int.toNat_one, List.length_take, List.length_cons, List.length_nil] at *; omega)))) ?_) | (refine Br.mk ?_ ?_ <;> intro hb <;> (try (first | (exfalso; omega) | exact absurd rfl hb | exact Bool.noConfusion hb | exact absurd (fun e => Bool.noConfusion e) hb | (exfalso; simp only [List.length_cons, List.length_nil] at hb; omega) | (exfalso; simp only [Int.toNat_natCast, Int.toNat_one, List.length_take, List.length_cons, List.length_nil] at hb; omega)))) | (refine XLoad.of (by assumption) rfl rfl (by omega) (by omega) rfl ?_) | (refine New.mk ?_; intro b hb) | (refine New2.mk ?_; intro b c hb hbc) | (refine SameR.same ?_) | (refine Two.mk ?_ ?_) | (refine ed_eql ?_) | (refine ed_neq ?_) | (refine drawn tysOk mixed (by kernel_rfl) ?_) | fail))); all_goals (try (conv => whnf)))
      exact ⟨fun h' hs => ⟨int_eq h4, hg0.trans hs.grows⟩⟩
/-- a chain of kids: c of them, from k on -/
def kch (E : List Int) : Nat → Int → List Int
  | 0, _ => []
  | c + 1, k => k :: kch E c (getI 0 E k)
noncomputable def kidsV (L : List Nd) (i : Int) : List Int := @ite _ (Has L i) (Classical.propDecidable _) (kch (EL L) (nd L i).c.toNat (i + 1)) []
/-- a slice of ints in a slot: nil, or own -/
def siK (k : Nat) (o : Option (Nat × Nat)) (n : Int) : KV := match o with
  | none => .val (.slice none 0 0)
  | some (b, c) => .osl k b n c
def siC (k : Nat) (o : Option (Nat × Nat)) (L : List Int) : Chs := match o with
  | none => []
  | some (b, c) => [(k, b, .arr 3 (intR .i64) L c)]
set_option maxHeartbeats 1000000 in
set_option maxRecDepth 10000 in
theorem kids_any (A : Option Addr) (len cap : Nat) (L : List Nd) (i : Int) (h : Heap) (hA : Sl ndR h A len L) (hr : len * 40 ≤ 140737488355328) :
    CallsH Try.prog 16 #[.slice A len cap, .int .i64 i] h fun v h' => OwnSl (intR .i64) 3 h h' v (kidsV L i) ∧ Grows h h' := by
  refine enter (rep := rep) (m := 11) (ex := []) (cu := []) tysOk Try.func16 rfl (by decide) (rs := [.tmp 4]) rfl rfl [.val (.slice A len cap), .val (.int .i64 i)] rfl ?_
  have hL := hA.len_eq
  ((repeat' ((conv => whnf); (first | (refine Ar.fit (by omega) ?_) | (refine VC.mk (by (first | omega | rfl | assumption | exact Sl.plain (by assumption) (by omega) | (and_intros <;> first | omega | rfl | assumption | (simp only [List.length_set]; omega) | (simp only [ByteArray.size_extract, ByteArray.size_append]; omega) | (simp only [List.length_cons, List.length_nil]; omega) | (simp only [Int.toNat_natCast, Int.toNat_one, List.length_take, List.length_cons, List.length_nil] at *; omega)))) ?_) | (refine Br.mk ?_ ?_ <;> intro hb <;> (try (first | (exfalso; omega) | exact absurd rfl hb | exact Bool.noConfusion hb | exact absurd (fun e => Bool.noConfusion e) hb | (exfalso; simp only [List.length_cons, List.length_nil] at hb; omega) | (exfalso; simp only [Int.toNat_natCast, Int.toNat_one, List.length_take, List.length_cons, List.length_nil] at hb; omega)))) | (refine XLoad.of (by assumption) rfl rfl (by omega) (by omega) rfl ?_) | (refine New.mk ?_; intro b hb) | (refine New2.mk ?_; intro b c hb hbc) | (refine SameR.same ?_) | (refine Two.mk ?_ ?_) | (refine ed_eql ?_) | (refine ed_neq ?_) | (refine drawn tysOk mixed (by kernel_rfl) ?_) | fail))); all_goals (try (conv => whnf)))
  refine CallK.epoch (fun h1 hq => outline_any A len cap L 131072 h1 (hA.grows hq.grows) hr) ?_
  rintro h1 u h2 hq ⟨hg, x, y, d, b, E, U, rfl, hX, hY, hT, hF⟩
  obtain ⟨X, xl, xc, rfl, hE⟩ := hX.sl
  obtain ⟨Y, yl, yc, rfl, hU⟩ := hY.sl
  have hg0 := hq.grows.trans hg
  have hA2 := hA.grows hg0
  rcases b with _ | _
  · have hno : ¬ Has L i := fun h => (by cases hT.2 h.1)
    have hV : kidsV L i = [] := by rw [kidsV, if_neg hno]
    rw [hV]
    ((repeat' ((conv => whnf); (first | (refine Ar.fit (by omega) ?_) | (refine VC.mk (by (first | omega | rfl | assumption | exact Sl.plain (by assumption) (by omega) | (and_intros <;> first | omega | rfl | assumption | (simp only [List.length_set]; omega) | (simp only [ByteArray.size_extract, ByteArray.size_append]; omega) | (simp only [List.length_cons, List.length_nil]; omega) | (simp only [Int.toNat_natCast, Int.toNat_one, List.length_take, List.length_cons, List.length_nil] at *; omega)))) ?_) | (refine Br.mk ?_ ?_ <;> intro hb <;> (try (first | (exfalso; omega) | exact absurd rfl hb | exact Bool.noConfusion hb | exact absurd (fun e => Bool.noConfusion e) hb | (exfalso; simp only [List.length_cons, List.length_nil] at hb; omega) | (exfalso; simp only [Int.toNat_natCast, Int.toNat_one, List.length_take, List.length_cons, List.length_nil] at hb; omega)))) | (refine XLoad.of (by assumption) rfl rfl (by omega) (by omega) rfl ?_) | (refine New.mk ?_; intro b hb) | (refine New2.mk ?_; intro b c hb hbc) | (refine SameR.same ?_) | (refine Two.mk ?_ ?_) | (refine ed_eql ?_) | (refine ed_neq ?_) | (refine drawn tysOk mixed (by kernel_rfl) ?_) | fail))); all_goals (try (conv => whnf)))
    exact ⟨fun h' hs => ⟨.nil, hg0.trans hs.grows⟩⟩
  · have hyes : TreeP L mostT := hT.1 rfl
    obtain ⟨q1, q2, D, q3⟩ := hF rfl
    have hxl := hE.len_eq
    have hl := q1.len
    clear hX hY
    by_cases hi : 0 ≤ i ∧ i < len
    · have hV : kidsV L i = kch E (nd L i).c.toNat (i + 1) := by rw [kidsV, if_pos ⟨hyes, by omega, by omega⟩, EL_eq q1]
      obtain ⟨R, hR⟩ : ∃ R, kch E (nd L i).c.toNat (i + 1) = R := ⟨_, rfl⟩
      rw [hV, hR]
      have hms := q1.at_ i (by omega) (by omega)
      have hle := q1.le i (by omega) (by omega)
      have hc0 := Kd.pos hms
      ((repeat' ((conv => whnf); (first | (refine Ar.fit (by omega) ?_) | (refine VC.mk (by (first | omega | rfl | assumption | exact Sl.plain (by assumption) (by omega) | (and_intros <;> first | omega | rfl | assumption | (simp only [List.length_set]; omega) | (simp only [ByteArray.size_extract, ByteArray.size_append]; omega) | (simp only [List.length_cons, List.length_nil]; omega) | (simp only [Int.toNat_natCast, Int.toNat_one, List.length_take, List.length_cons, List.length_nil] at *; omega)))) ?_) | (refine Br.mk ?_ ?_ <;> intro hb <;> (try (first | (exfalso; omega) | exact absurd rfl hb | exact Bool.noConfusion hb | exact absurd (fun e => Bool.noConfusion e) hb | (exfalso; simp only [List.length_cons, List.length_nil] at hb; omega) | (exfalso; simp only [Int.toNat_natCast, Int.toNat_one, List.length_take, List.length_cons, List.length_nil] at hb; omega)))) | (refine XLoad.of (by assumption) rfl rfl (by omega) (by omega) rfl ?_) | (refine New.mk ?_; intro b hb) | (refine New2.mk ?_; intro b c hb hbc) | (refine SameR.same ?_) | (refine Two.mk ?_ ?_) | (refine ed_eql ?_) | (refine ed_neq ?_) | (refine drawn tysOk mixed (by kernel_rfl) ?_) | fail))); all_goals (try (conv => whnf)))
      refine loop_rule tysOk [9, 10] (fun x : Option (Nat × Nat) × List Int × Int × Int => [(9, siK 45 x.1 x.2.2.1), (10, .val (.int .i64 x.2.2.2))]) (fun x => siC 45 x.1 x.2.1)
        (fun μ x => x.2.2.1 = x.2.1.length ∧ (x.1 = none → x.2.1 = []) ∧ (∀ b c, x.1 = some (b, c) → h2.size ≤ b) ∧ 0 ≤ x.2.2.2 ∧ x.2.2.1 ≤ x.2.2.2 ∧ ∃ c : Int, Ms L x.2.2.2 c (getI 0 E i) ∧ x.2.1 ++ kch E c.toNat x.2.2.2 = R ∧ μ = c.toNat) (nd L i).c.toNat ⟨none, [], 0, i + 1⟩ ?_
      conv => whnf
      refine ⟨by ((repeat (refine ⟨rfl, ?_⟩)); trivial), trivial, ⟨by simp, by simp, by simp, by dsimp only; omega, by dsimp only; omega, _, hms, hR, rfl⟩, ?_⟩
      rintro μ ⟨o, xs, m, k⟩ ⟨a1, a2, a3, a4, a5, c, a6, a7, a8⟩
      dsimp only at a1 a2 a3 a4 a5 a6 a7 a8 ⊢
      have a9 := Kd.le a6
      have z1 : getI (intR .i64).dflt E i = getI 0 E i := rfl
      have z2 : getI (intR .i64).dflt E k = getI 0 E k := rfl
      rcases a6.cases with ⟨rfl, ek⟩ | ⟨g1, g2, g3, g4, g5, e, g6, g7⟩
      · have a7 : xs = R := by simpa [kch] using a7
        rcases o with _ | ⟨b0, c0⟩
        · have := a2 rfl
          subst this
          dsimp only [siK, siC]
          ((repeat' ((conv => whnf); (first | (refine Ar.fit (by omega) ?_) | (refine VC.mk (by (first | omega | rfl | assumption | exact Sl.plain (by assumption) (by omega) | (and_intros <;> first | omega | rfl | assumption | (simp only [List.length_set]; omega) | (simp only [ByteArray.size_extract, ByteArray.size_append]; omega) | (simp only [List.length_cons, List.length_nil]; omega) | (simp only [Int.toNat_natCast, Int.toNat_one, List.length_take, List.length_cons, List.length_nil] at *; omega)))) ?_) | (refine Br.mk ?_ ?_ <;> intro hb <;> (try (first | (exfalso; omega) | exact absurd rfl hb | exact Bool.noConfusion hb | exact absurd (fun e => Bool.noConfusion e) hb | (exfalso; simp only [List.length_cons, List.length_nil] at hb; omega) | (exfalso; simp only [Int.toNat_natCast, Int.toNat_one, List.length_take, List.length_cons, List.length_nil] at hb; omega)))) | (refine XLoad.of (by assumption) rfl rfl (by omega) (by omega) rfl ?_) | (refine New.mk ?_; intro b hb) | (refine New2.mk ?_; intro b c hb hbc) | (refine SameR.same ?_) | (refine Two.mk ?_ ?_) | (refine ed_eql ?_) | (refine ed_neq ?_) | (refine drawn tysOk mixed (by kernel_rfl) ?_) | fail))); all_goals (try (conv => whnf)))
          rw [← a7]
          exact ⟨fun h' hs => ⟨.nil, hg0.trans hs.grows⟩⟩
        · dsimp only [siK, siC]
          ((repeat' ((conv => whnf); (first | (refine Ar.fit (by omega) ?_) | (refine VC.mk (by (first | omega | rfl | assumption | exact Sl.plain (by assumption) (by omega) | (and_intros <;> first | omega | rfl | assumption | (simp only [List.length_set]; omega) | (simp only [ByteArray.size_extract, ByteArray.size_append]; omega) | (simp only [List.length_cons, List.length_nil]; omega) | (simp only [Int.toNat_natCast, Int.toNat_one, List.length_take, List.length_cons, List.length_nil] at *; omega)))) ?_) | (refine Br.mk ?_ ?_ <;> intro hb <;> (try (first | (exfalso; omega) | exact absurd rfl hb | exact Bool.noConfusion hb | exact absurd (fun e => Bool.noConfusion e) hb | (exfalso; simp only [List.length_cons, List.length_nil] at hb; omega) | (exfalso; simp only [Int.toNat_natCast, Int.toNat_one, List.length_take, List.length_cons, List.length_nil] at hb; omega)))) | (refine XLoad.of (by assumption) rfl rfl (by omega) (by omega) rfl ?_) | (refine New.mk ?_; intro b hb) | (refine New2.mk ?_; intro b c hb hbc) | (refine SameR.same ?_) | (refine Two.mk ?_ ?_) | (refine ed_eql ?_) | (refine ed_neq ?_) | (refine drawn tysOk mixed (by kernel_rfl) ?_) | fail))); all_goals (try (conv => whnf)))
          rw [← a7]
          exact ⟨fun h' hs => ⟨(hs.own (k := 45) rfl a1).base hg0, hg0.trans hs.grows⟩⟩
      · have hge := Kd.ge g6
        have hge2 := Kd.ge g7
        have he : getI 0 E k = e := (q1.at_ k g2 g3).uniq g6
        rw [show c.toNat = (c - 1).toNat + 1 by omega] at a7
        simp only [kch] at a7
        rcases o with _ | ⟨b0, c0⟩
        · have := a2 rfl
          subst this
          dsimp only [siK, siC]
          ((repeat' ((conv => whnf); (first | (refine Ar.fit (by omega) ?_) | (refine VC.mk (by (first | omega | rfl | assumption | exact Sl.plain (by assumption) (by omega) | (and_intros <;> first | omega | rfl | assumption | (simp only [List.length_set]; omega) | (simp only [ByteArray.size_extract, ByteArray.size_append]; omega) | (simp only [List.length_cons, List.length_nil]; omega) | (simp only [Int.toNat_natCast, Int.toNat_one, List.length_take, List.length_cons, List.length_nil] at *; omega)))) ?_) | (refine Br.mk ?_ ?_ <;> intro hb <;> (try (first | (exfalso; omega) | exact absurd rfl hb | exact Bool.noConfusion hb | exact absurd (fun e => Bool.noConfusion e) hb | (exfalso; simp only [List.length_cons, List.length_nil] at hb; omega) | (exfalso; simp only [Int.toNat_natCast, Int.toNat_one, List.length_take, List.length_cons, List.length_nil] at hb; omega)))) | (refine XLoad.of (by assumption) rfl rfl (by omega) (by omega) rfl ?_) | (refine New.mk ?_; intro b hb) | (refine New2.mk ?_; intro b c hb hbc) | (refine SameR.same ?_) | (refine Two.mk ?_ ?_) | (refine ed_eql ?_) | (refine ed_neq ?_) | (refine drawn tysOk mixed (by kernel_rfl) ?_) | fail))); all_goals (try (conv => whnf)))
          refine ⟨μ - 1, ⟨some (b, c), [k], 1, getI 0 E k⟩, ⟨by simp, fun e => (by cases e), fun b' c' e => (by cases e; exact hb), by dsimp only; omega, by dsimp only; omega, _, by dsimp only; rw [he]; exact g7, a7, by omega⟩, by omega, by ((repeat (refine ⟨rfl, ?_⟩)); trivial), rfl, rfl, ⟨rfl, rfl, trivial⟩⟩
        · have hb0 := a3 b0 c0 rfl
          dsimp only [siK, siC]
          ((repeat' ((conv => whnf); (first | (refine Ar.fit (by omega) ?_) | (refine VC.mk (by (first | omega | rfl | assumption | exact Sl.plain (by assumption) (by omega) | (and_intros <;> first | omega | rfl | assumption | (simp only [List.length_set]; omega) | (simp only [ByteArray.size_extract, ByteArray.size_append]; omega) | (simp only [List.length_cons, List.length_nil]; omega) | (simp only [Int.toNat_natCast, Int.toNat_one, List.length_take, List.length_cons, List.length_nil] at *; omega)))) ?_) | (refine Br.mk ?_ ?_ <;> intro hb <;> (try (first | (exfalso; omega) | exact absurd rfl hb | exact Bool.noConfusion hb | exact absurd (fun e => Bool.noConfusion e) hb | (exfalso; simp only [List.length_cons, List.length_nil] at hb; omega) | (exfalso; simp only [Int.toNat_natCast, Int.toNat_one, List.length_take, List.length_cons, List.length_nil] at hb; omega)))) | (refine XLoad.of (by assumption) rfl rfl (by omega) (by omega) rfl ?_) | (refine New.mk ?_; intro b hb) | (refine New2.mk ?_; intro b c hb hbc) | (refine SameR.same ?_) | (refine Two.mk ?_ ?_) | (refine ed_eql ?_) | (refine ed_neq ?_) | (refine drawn tysOk mixed (by kernel_rfl) ?_) | fail))); all_goals (try (conv => whnf)))
          have hxs : List.take m.toNat xs = xs := List.take_of_length_le (by omega)
          refine ⟨μ - 1, ⟨some (b, c), List.take m.toNat xs ++ [k], m + 1, getI 0 E k⟩, ⟨by dsimp only; rw [hxs, List.length_append, List.length_singleton]; omega, fun e => (by cases e), fun b' c' e => (by cases e; exact hb), by dsimp only; omega, by dsimp only; omega, _, by dsimp only; rw [he]; exact g7, by dsimp only; rw [hxs, List.append_assoc]; exact a7, by omega⟩, by omega, by ((repeat (refine ⟨rfl, ?_⟩)); trivial), rfl, rfl, ⟨rfl, rfl, trivial⟩⟩
    · have hno : ¬ Has L i := fun h => by have := h.2; omega
      have hV : kidsV L i = [] := by rw [kidsV, if_neg hno]
      rw [hV]
      ((repeat' ((conv => whnf); (first | (refine Ar.fit (by omega) ?_) | (refine VC.mk (by (first | omega | rfl | assumption | exact Sl.plain (by assumption) (by omega) | (and_intros <;> first | omega | rfl | assumption | (simp only [List.length_set]; omega) | (simp only [ByteArray.size_extract, ByteArray.size_append]; omega) | (simp only [List.length_cons, List.length_nil]; omega) | (simp only [Int.toNat_natCast, Int.toNat_one, List.length_take, List.length_cons, List.length_nil] at *; omega)))) ?_) | (refine Br.mk ?_ ?_ <;> intro hb <;> (try (first | (exfalso; omega) | exact absurd rfl hb | exact Bool.noConfusion hb | exact absurd (fun e => Bool.noConfusion e) hb | (exfalso; simp only [List.length_cons, List.length_nil] at hb; omega) | (exfalso; simp only [Int.toNat_natCast, Int.toNat_one, List.length_take, List.length_cons, List.length_nil] at hb; omega)))) | (refine XLoad.of (by assumption) rfl rfl (by omega) (by omega) rfl ?_) | (refine New.mk ?_; intro b hb) | (refine New2.mk ?_; intro b c hb hbc) | (refine SameR.same ?_) | (refine Two.mk ?_ ?_) | (refine ed_eql ?_) | (refine ed_neq ?_) | (refine drawn tysOk mixed (by kernel_rfl) ?_) | fail))); all_goals (try (conv => whnf)))
      all_goals exact ⟨fun h' hs => ⟨.nil, hg0.trans hs.grows⟩⟩
end Go.Ex
