/-
  Pick: which lists the program takes for one tree.
-/
import Derived.Test.YtinelelkjbdaiaaPkK
namespace Go.Ex
open Go.Proofs
set_option linter.unusedVariables false
set_option linter.unusedSimpArgs false
attribute [local irreducible] CallsH

theorem endL_st {L : List Pt} {st : List Int} (h : sufS (kidsL L) 0 = some st) (hl : st.length = 1) : endL L 0 = L.length := by
  have e := endG_of (kidsL L).length (kidsL L) 0 st 1 h (by omega) (by omega) (by omega) (by omega)
  rw [if_neg (by omega)] at e
  have hk : (kidsL L).length = L.length := by simp [kidsL]
  rw [endL, if_neg (by omega)]
  rw [hk] at e
  exact e
theorem well_iff (L : List Pt) : WellL L ↔ ∃ st, sufS (kidsL L) 0 = some st ∧ st.length = 1 := by
  have hk : (kidsL L).length = L.length := by simp [kidsL]
  constructor
  · rintro ⟨h0, h1⟩
    rw [endL, if_neg (by omega)] at h1
    obtain ⟨st, q1, q2⟩ := sufS_of L.length (kidsL L) 0 1 (by omega) (by omega) (by omega) h1
    exact ⟨st, q1, by omega⟩
  · rintro ⟨st, q1, q2⟩
    have := sufS_len _ _ _ q1
    exact ⟨by omega, endL_st q1 q2⟩
set_option maxHeartbeats 1000000 in
set_option maxRecDepth 10000 in
theorem pwell2_any (A : Option Addr) (n c : Nat) (L : List Pt) (h : Heap) (hL : Sl partR h A n L) (hn : n ≤ 300) :
    CallsH Try.prog 21 #[.slice A n c] h fun v h' => (∃ (B : Option Addr) (m e : Nat), v = .tuple #[.slice B m e, denC (.prop (WellL L))]) ∧ Grows h h' := by
  refine enter (rep := rep) (m := 7) (ex := []) (cu := []) tysOk Try.func21 rfl (by decide) (rs := [.tmp 2, .tmp 3]) rfl rfl [.val (.slice A n c)] rfl ?_
  ((repeat' ((conv => whnf); (first | (refine Ar.fit (by first | omega | (simp only [lo, hi]; omega)) ?_) | (refine VC.mk (by (first | omega | rfl | assumption | exact Sl.plain (by assumption) (by omega) | (and_intros <;> first | omega | rfl | assumption | (simp only [List.length_set]; omega) | (simp only [List.length_append, List.length_take, List.length_replicate, List.length_cons, List.length_nil]; omega) | (simp only [ByteArray.size_extract, ByteArray.size_append]; omega) | (simp only [List.length_cons, List.length_nil]; omega) | (simp only [Int.toNat_natCast, Int.toNat_one, List.length_take, List.length_cons, List.length_nil] at *; omega)))) ?_) | (refine Br.mk ?_ ?_ <;> intro hb <;> (try (first | (exfalso; omega) | exact absurd rfl hb | exact Bool.noConfusion hb | exact absurd (fun e => Bool.noConfusion e) hb | (exfalso; simp only [List.length_cons, List.length_nil] at hb; omega) | (exfalso; simp only [Int.toNat_natCast, Int.toNat_one, List.length_take, List.length_cons, List.length_nil] at hb; omega)))) | (refine XLoad.of (by assumption) rfl rfl (by omega) (by omega) rfl ?_) | (refine New.mk ?_; intro b hb) | (refine New2.mk ?_; intro b c hb hbc) | (refine NewO.mk ?_; intro b c hb hbc) | (refine SameR.same ?_) | (refine Two.mk ?_ ?_) | (refine Tri.mk ?_ ?_ ?_) | (refine ed_eql ?_) | (refine ed_neq ?_) | (refine drawn tysOk mixed (by kernel_rfl) ?_) | fail))); all_goals (try (conv => whnf)))
  refine CallK.epoch (fun h1 hq => tends_any A n c L h1 (hL.grows hq.grows) hn) ?_
  rintro h1 u h2 hq ⟨⟨B, m, e, d, b, rfl, hbb⟩, hg⟩
  have hg0 := hq.grows.trans hg
  rw [← well_iff] at hbb
  rcases b with _ | _
  · ((repeat' ((conv => whnf); (first | (refine Ar.fit (by first | omega | (simp only [lo, hi]; omega)) ?_) | (refine VC.mk (by (first | omega | rfl | assumption | exact Sl.plain (by assumption) (by omega) | (and_intros <;> first | omega | rfl | assumption | (simp only [List.length_set]; omega) | (simp only [List.length_append, List.length_take, List.length_replicate, List.length_cons, List.length_nil]; omega) | (simp only [ByteArray.size_extract, ByteArray.size_append]; omega) | (simp only [List.length_cons, List.length_nil]; omega) | (simp only [Int.toNat_natCast, Int.toNat_one, List.length_take, List.length_cons, List.length_nil] at *; omega)))) ?_) | (refine Br.mk ?_ ?_ <;> intro hb <;> (try (first | (exfalso; omega) | exact absurd rfl hb | exact Bool.noConfusion hb | exact absurd (fun e => Bool.noConfusion e) hb | (exfalso; simp only [List.length_cons, List.length_nil] at hb; omega) | (exfalso; simp only [Int.toNat_natCast, Int.toNat_one, List.length_take, List.length_cons, List.length_nil] at hb; omega)))) | (refine XLoad.of (by assumption) rfl rfl (by omega) (by omega) rfl ?_) | (refine New.mk ?_; intro b hb) | (refine New2.mk ?_; intro b c hb hbc) | (refine NewO.mk ?_; intro b c hb hbc) | (refine SameR.same ?_) | (refine Two.mk ?_ ?_) | (refine Tri.mk ?_ ?_ ?_) | (refine ed_eql ?_) | (refine ed_neq ?_) | (refine drawn tysOk mixed (by kernel_rfl) ?_) | fail))); all_goals (try (conv => whnf)))
    refine ⟨fun h' hs => ⟨⟨B, m, e, ?_⟩, hg0.trans hs.grows⟩⟩
    rw [prop_false (fun hw => by have := hbb.2 hw; cases this.1)]
    rfl
  · ((repeat' ((conv => whnf); (first | (refine Ar.fit (by first | omega | (simp only [lo, hi]; omega)) ?_) | (refine VC.mk (by (first | omega | rfl | assumption | exact Sl.plain (by assumption) (by omega) | (and_intros <;> first | omega | rfl | assumption | (simp only [List.length_set]; omega) | (simp only [List.length_append, List.length_take, List.length_replicate, List.length_cons, List.length_nil]; omega) | (simp only [ByteArray.size_extract, ByteArray.size_append]; omega) | (simp only [List.length_cons, List.length_nil]; omega) | (simp only [Int.toNat_natCast, Int.toNat_one, List.length_take, List.length_cons, List.length_nil] at *; omega)))) ?_) | (refine Br.mk ?_ ?_ <;> intro hb <;> (try (first | (exfalso; omega) | exact absurd rfl hb | exact Bool.noConfusion hb | exact absurd (fun e => Bool.noConfusion e) hb | (exfalso; simp only [List.length_cons, List.length_nil] at hb; omega) | (exfalso; simp only [Int.toNat_natCast, Int.toNat_one, List.length_take, List.length_cons, List.length_nil] at hb; omega)))) | (refine XLoad.of (by assumption) rfl rfl (by omega) (by omega) rfl ?_) | (refine New.mk ?_; intro b hb) | (refine New2.mk ?_; intro b c hb hbc) | (refine NewO.mk ?_; intro b c hb hbc) | (refine SameR.same ?_) | (refine Two.mk ?_ ?_) | (refine Tri.mk ?_ ?_ ?_) | (refine ed_eql ?_) | (refine ed_neq ?_) | (refine drawn tysOk mixed (by kernel_rfl) ?_) | fail))); all_goals (try (conv => whnf)))
    refine ⟨fun h' hs => ⟨⟨B, m, e, ?_⟩, hg0.trans hs.grows⟩⟩
    have : (d = 1) = WellL L := propext ⟨fun hd => hbb.1 ⟨rfl, hd⟩, fun hw => (hbb.2 hw).2⟩
    rw [← this]
    rfl
set_option maxHeartbeats 1000000 in
set_option maxRecDepth 10000 in
theorem pwell_any (A : Option Addr) (n c : Nat) (L : List Pt) (h : Heap) (hL : Sl partR h A n L) (hn : n ≤ 300) :
    CallsH Try.prog 13 #[.slice A n c] h fun v h' => v = denC (.prop (WellL L)) ∧ Grows h h' := by
  refine enter (rep := rep) (m := 5) (ex := []) (cu := []) tysOk Try.func13 rfl (by decide) (rs := [.tmp 2]) rfl rfl [.val (.slice A n c)] rfl ?_
  ((repeat' ((conv => whnf); (first | (refine Ar.fit (by first | omega | (simp only [lo, hi]; omega)) ?_) | (refine VC.mk (by (first | omega | rfl | assumption | exact Sl.plain (by assumption) (by omega) | (and_intros <;> first | omega | rfl | assumption | (simp only [List.length_set]; omega) | (simp only [List.length_append, List.length_take, List.length_replicate, List.length_cons, List.length_nil]; omega) | (simp only [ByteArray.size_extract, ByteArray.size_append]; omega) | (simp only [List.length_cons, List.length_nil]; omega) | (simp only [Int.toNat_natCast, Int.toNat_one, List.length_take, List.length_cons, List.length_nil] at *; omega)))) ?_) | (refine Br.mk ?_ ?_ <;> intro hb <;> (try (first | (exfalso; omega) | exact absurd rfl hb | exact Bool.noConfusion hb | exact absurd (fun e => Bool.noConfusion e) hb | (exfalso; simp only [List.length_cons, List.length_nil] at hb; omega) | (exfalso; simp only [Int.toNat_natCast, Int.toNat_one, List.length_take, List.length_cons, List.length_nil] at hb; omega)))) | (refine XLoad.of (by assumption) rfl rfl (by omega) (by omega) rfl ?_) | (refine New.mk ?_; intro b hb) | (refine New2.mk ?_; intro b c hb hbc) | (refine NewO.mk ?_; intro b c hb hbc) | (refine SameR.same ?_) | (refine Two.mk ?_ ?_) | (refine Tri.mk ?_ ?_ ?_) | (refine ed_eql ?_) | (refine ed_neq ?_) | (refine drawn tysOk mixed (by kernel_rfl) ?_) | fail))); all_goals (try (conv => whnf)))
  refine CallK.epoch (fun h1 hq => pwell2_any A n c L h1 (hL.grows hq.grows) hn) ?_
  rintro h1 u h2 hq ⟨⟨B, m, e, rfl⟩, hg⟩
  have hg0 := hq.grows.trans hg
  by_cases hw : WellL L
  · rw [prop_true hw]
    ((repeat' ((conv => whnf); (first | (refine Ar.fit (by first | omega | (simp only [lo, hi]; omega)) ?_) | (refine VC.mk (by (first | omega | rfl | assumption | exact Sl.plain (by assumption) (by omega) | (and_intros <;> first | omega | rfl | assumption | (simp only [List.length_set]; omega) | (simp only [List.length_append, List.length_take, List.length_replicate, List.length_cons, List.length_nil]; omega) | (simp only [ByteArray.size_extract, ByteArray.size_append]; omega) | (simp only [List.length_cons, List.length_nil]; omega) | (simp only [Int.toNat_natCast, Int.toNat_one, List.length_take, List.length_cons, List.length_nil] at *; omega)))) ?_) | (refine Br.mk ?_ ?_ <;> intro hb <;> (try (first | (exfalso; omega) | exact absurd rfl hb | exact Bool.noConfusion hb | exact absurd (fun e => Bool.noConfusion e) hb | (exfalso; simp only [List.length_cons, List.length_nil] at hb; omega) | (exfalso; simp only [Int.toNat_natCast, Int.toNat_one, List.length_take, List.length_cons, List.length_nil] at hb; omega)))) | (refine XLoad.of (by assumption) rfl rfl (by omega) (by omega) rfl ?_) | (refine New.mk ?_; intro b hb) | (refine New2.mk ?_; intro b c hb hbc) | (refine NewO.mk ?_; intro b c hb hbc) | (refine SameR.same ?_) | (refine Two.mk ?_ ?_) | (refine Tri.mk ?_ ?_ ?_) | (refine ed_eql ?_) | (refine ed_neq ?_) | (refine drawn tysOk mixed (by kernel_rfl) ?_) | fail))); all_goals (try (conv => whnf)))
    exact ⟨fun h' hs => ⟨prop_true rfl, hg0.trans hs.grows⟩⟩
  · rw [prop_false hw]
    ((repeat' ((conv => whnf); (first | (refine Ar.fit (by first | omega | (simp only [lo, hi]; omega)) ?_) | (refine VC.mk (by (first | omega | rfl | assumption | exact Sl.plain (by assumption) (by omega) | (and_intros <;> first | omega | rfl | assumption | (simp only [List.length_set]; omega) | (simp only [List.length_append, List.length_take, List.length_replicate, List.length_cons, List.length_nil]; omega) | (simp only [ByteArray.size_extract, ByteArray.size_append]; omega) | (simp only [List.length_cons, List.length_nil]; omega) | (simp only [Int.toNat_natCast, Int.toNat_one, List.length_take, List.length_cons, List.length_nil] at *; omega)))) ?_) | (refine Br.mk ?_ ?_ <;> intro hb <;> (try (first | (exfalso; omega) | exact absurd rfl hb | exact Bool.noConfusion hb | exact absurd (fun e => Bool.noConfusion e) hb | (exfalso; simp only [List.length_cons, List.length_nil] at hb; omega) | (exfalso; simp only [Int.toNat_natCast, Int.toNat_one, List.length_take, List.length_cons, List.length_nil] at hb; omega)))) | (refine XLoad.of (by assumption) rfl rfl (by omega) (by omega) rfl ?_) | (refine New.mk ?_; intro b hb) | (refine New2.mk ?_; intro b c hb hbc) | (refine NewO.mk ?_; intro b c hb hbc) | (refine SameR.same ?_) | (refine Two.mk ?_ ?_) | (refine Tri.mk ?_ ?_ ?_) | (refine ed_eql ?_) | (refine ed_neq ?_) | (refine drawn tysOk mixed (by kernel_rfl) ?_) | fail))); all_goals (try (conv => whnf)))
    exact ⟨fun h' hs => ⟨prop_false (fun h => by cases h), hg0.trans hs.grows⟩⟩
end Go.Ex
