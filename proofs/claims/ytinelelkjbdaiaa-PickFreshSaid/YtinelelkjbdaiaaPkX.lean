/-
  Pick: the law PickOne, walked.
-/
import Derived.Test.YtinelelkjbdaiaaPkU
namespace Go.Ex
open Go.Proofs
set_option linter.unusedVariables false
set_option linter.unusedSimpArgs false
attribute [local irreducible] CallsH

theorem amAt_mem {X : List Am} {i : Int} (h0 : 0 ≤ i) (h1 : i < X.length) : amAt X i ∈ X := by
  simp only [amAt, getI, List.getD]
  rw [List.getElem?_eq_getElem (by omega)]
  exact List.getElem_mem _
theorem one_res {L : List Pt} {X : List Am} {z : Int} {R : List Am} (hw : WellL L) (hg : ∀ a ∈ X ++ [⟨z, 0, []⟩], GoodM L a) (h : Picks L (X ++ [⟨z, 0, []⟩]) 0 R) : ∃ a, R = [a] ∧ a.part = 0 ∧ a.rule ≤ z := by
  have hl : ((X ++ [(⟨z, 0, []⟩ : Am)]).length : Int) = X.length + 1 := by simp
  have hlast : amAt (X ++ [⟨z, 0, []⟩]) X.length = ⟨z, 0, []⟩ := by simp [amAt, getI, List.getD]
  cases h with
  | done _ h =>
    have := h X.length (by omega) (by omega)
    rw [hlast] at this
    dsimp only at this
    omega
  | step _ i R h0 h1 hf hm hr =>
    have hgi := hg _ (amAt_mem h0 h1)
    have hn := hm X.length (by omega) (by omega) (by rw [hlast]; exact Int.le_refl _)
    simp only [LtX] at hn
    rw [hlast] at hn
    dsimp only at hn
    have hp : (amAt (X ++ [⟨z, 0, []⟩]) i).part = 0 := by have := hgi.1; omega
    refine ⟨_, ?_, hp, by omega⟩
    rw [hp, hw.2] at hr
    cases hr with
    | done _ h => rfl
    | step _ j R g0 g1 gf gm gr =>
      have hgj := hg _ (amAt_mem g0 g1)
      have := hgj.2.1
      omega
set_option maxHeartbeats 1000000 in
set_option maxRecDepth 10000 in
theorem one_law (A : Option Addr) (n c : Nat) (L : List Pt) (B : Option Addr) (k c2 : Nat) (M : List Mt) (X : List Am) (z : Int) (h : Heap) (hL : Sl partR h A n L) (hM : Sl matR h B k M)
    (hX : All2 (RM h) M X) (hbz : ∀ a ∈ X, a.bs.length * 32 ≤ 140737488355328) (hz : 0 ≤ z ∧ z < 256) :
    CallsH Try.prog 6 #[.slice A n c, .slice B k c2, .int .u8 z] h fun v h' => v = .bool true ∧ Grows h h' := by
  refine enter (rep := rep) (m := 10) (ex := [17, 34]) (cu := []) tysOk Try.func6 rfl (by decide) (rs := [.tmp 6]) rfl rfl [.val (.slice A n c), .val (.slice B k c2), .val (.int .u8 z)] rfl ?_
  have hmlen := hM.len_eq
  by_cases hgr : 300 < n ∨ 300 < k
  · ((repeat' ((conv => whnf); (first | (refine Ar.fit (by first | omega | (simp only [lo, hi]; omega)) ?_) | (refine VC.mk (by (first | omega | rfl | assumption | exact Sl.plain (by assumption) (by omega) | (and_intros <;> first | omega | rfl | assumption | (simp only [List.length_set]; omega) | (simp only [List.length_append, List.length_take, List.length_replicate, List.length_cons, List.length_nil]; omega) | (simp only [ByteArray.size_extract, ByteArray.size_append]; omega) | (simp only [List.length_cons, List.length_nil]; omega) | (simp only [Int.toNat_natCast, Int.toNat_one, List.length_take, List.length_cons, List.length_nil] at *; omega)))) ?_) | (refine Br.mk ?_ ?_ <;> intro hb <;> (try (first | (exfalso; omega) | exact absurd rfl hb | exact Bool.noConfusion hb | exact absurd (fun e => Bool.noConfusion e) hb | (exfalso; simp only [List.length_cons, List.length_nil] at hb; omega) | (exfalso; simp only [Int.toNat_natCast, Int.toNat_one, List.length_take, List.length_cons, List.length_nil] at hb; omega)))) | (refine XLoad.of (by assumption) rfl rfl (by omega) (by omega) rfl ?_) | (refine New.mk ?_; intro b hb) | (refine New2.mk ?_; intro b c hb hbc) | (refine NewO.mk ?_; intro b c hb hbc) | (refine SameR.same ?_) | (refine Two.mk ?_ ?_) | (refine Tri.mk ?_ ?_ ?_) | (refine ed_eql ?_) | (refine ed_neq ?_) | (refine drawn tysOk mixed (by kernel_rfl) ?_) | (apply CallK.pure; (case hh => (intro h1 hs; exact (great_any _ _ _ _ _ _ h1).mono (fun v h' ⟨e1, e2⟩ => ⟨e1.trans (prop_true hgr), e2⟩)))) | (apply CallK.pure; (case hh => (intro h1 hs; exact fixed_any h1))) | fail))); all_goals (try (conv => whnf)))
    exact ⟨fun h' hs => ⟨prop_true rfl, hs.grows⟩⟩
  by_cases hw : WellL L
  case neg =>
    ((repeat' ((conv => whnf); (first | (refine Ar.fit (by first | omega | (simp only [lo, hi]; omega)) ?_) | (refine VC.mk (by (first | omega | rfl | assumption | exact Sl.plain (by assumption) (by omega) | (and_intros <;> first | omega | rfl | assumption | (simp only [List.length_set]; omega) | (simp only [List.length_append, List.length_take, List.length_replicate, List.length_cons, List.length_nil]; omega) | (simp only [ByteArray.size_extract, ByteArray.size_append]; omega) | (simp only [List.length_cons, List.length_nil]; omega) | (simp only [Int.toNat_natCast, Int.toNat_one, List.length_take, List.length_cons, List.length_nil] at *; omega)))) ?_) | (refine Br.mk ?_ ?_ <;> intro hb <;> (try (first | (exfalso; omega) | exact absurd rfl hb | exact Bool.noConfusion hb | exact absurd (fun e => Bool.noConfusion e) hb | (exfalso; simp only [List.length_cons, List.length_nil] at hb; omega) | (exfalso; simp only [Int.toNat_natCast, Int.toNat_one, List.length_take, List.length_cons, List.length_nil] at hb; omega)))) | (refine XLoad.of (by assumption) rfl rfl (by omega) (by omega) rfl ?_) | (refine New.mk ?_; intro b hb) | (refine New2.mk ?_; intro b c hb hbc) | (refine NewO.mk ?_; intro b c hb hbc) | (refine SameR.same ?_) | (refine Two.mk ?_ ?_) | (refine Tri.mk ?_ ?_ ?_) | (refine ed_eql ?_) | (refine ed_neq ?_) | (refine drawn tysOk mixed (by kernel_rfl) ?_) | (apply CallK.pure; (case hh => (intro h1 hs; exact (great_any _ _ _ _ _ _ h1).mono (fun v h' ⟨e1, e2⟩ => ⟨e1.trans (prop_false hgr), e2⟩)))) | (apply CallK.pure; (case hh => (intro h1 hs; exact fixed_any h1))) | (apply CallK.pure; (case hh => (intro h1 hs; exact (rwell_any _ _ _ L h1 (hL.grows hs.grows) (by omega)).mono (fun v h' ⟨e1, e2⟩ => ⟨e1.trans (prop_false hw), e2⟩)))) | fail))); all_goals (try (conv => whnf)))
    all_goals exact ⟨fun h' hs => ⟨prop_true rfl, hs.grows⟩⟩
  ((repeat' ((conv => whnf); (first | (refine Ar.fit (by first | omega | (simp only [lo, hi]; omega)) ?_) | (refine VC.mk (by (first | omega | rfl | assumption | exact Sl.plain (by assumption) (by omega) | (and_intros <;> first | omega | rfl | assumption | (simp only [List.length_set]; omega) | (simp only [List.length_append, List.length_take, List.length_replicate, List.length_cons, List.length_nil]; omega) | (simp only [ByteArray.size_extract, ByteArray.size_append]; omega) | (simp only [List.length_cons, List.length_nil]; omega) | (simp only [Int.toNat_natCast, Int.toNat_one, List.length_take, List.length_cons, List.length_nil] at *; omega)))) ?_) | (refine Br.mk ?_ ?_ <;> intro hb <;> (try (first | (exfalso; omega) | exact absurd rfl hb | exact Bool.noConfusion hb | exact absurd (fun e => Bool.noConfusion e) hb | (exfalso; simp only [List.length_cons, List.length_nil] at hb; omega) | (exfalso; simp only [Int.toNat_natCast, Int.toNat_one, List.length_take, List.length_cons, List.length_nil] at hb; omega)))) | (refine XLoad.of (by assumption) rfl rfl (by omega) (by omega) rfl ?_) | (refine New.mk ?_; intro b hb) | (refine New2.mk ?_; intro b c hb hbc) | (refine NewO.mk ?_; intro b c hb hbc) | (refine SameR.same ?_) | (refine Two.mk ?_ ?_) | (refine Tri.mk ?_ ?_ ?_) | (refine ed_eql ?_) | (refine ed_neq ?_) | (refine drawn tysOk mixed (by kernel_rfl) ?_) | (apply CallK.pure; (case hh => (intro h1 hs; exact (great_any _ _ _ _ _ _ h1).mono (fun v h' ⟨e1, e2⟩ => ⟨e1.trans (prop_false hgr), e2⟩)))) | (apply CallK.pure; (case hh => (intro h1 hs; exact fixed_any h1))) | (refine XList.of hM rfl ?_) | (apply CallK.pure; (case hh => (intro h1 hs; exact (rwell_any _ _ _ L h1 (hL.grows hs.grows) (by omega)).mono (fun v h' ⟨e1, e2⟩ => ⟨e1.trans (prop_true hw), e2⟩)))) | fail))); all_goals (try (conv => whnf)))
  have htk : List.take (((0 : Nat) : Int) + (M.length : Int)).toNat (List.take ((0 : Nat) : Int).toNat [] ++ M) ++ List.take ((1 : Nat) : Int).toNat [(⟨z, 0, none, 0, 0⟩ : Mt)] = M ++ [⟨z, 0, none, 0, 0⟩] := by
    have : (((0 : Nat) : Int) + (M.length : Int)).toNat = M.length := by omega
    rw [this]; simp
  rw [htk, show (((0 : Nat) : Int) + (M.length : Int) + ((List.take ((1 : Nat) : Int).toNat [(⟨z, 0, none, 0, 0⟩ : Mt)]).length : Int)) = ((M.length + 1 : Nat) : Int) from by simp]
  refine CallK.epoch (fun h1 hq => pick_any A n _ L _ (M.length + 1) _ (M ++ [(⟨z, 0, none, 0, 0⟩ : Mt)]) (X ++ [(⟨z, 0, []⟩ : Am)]) h1 (hL.grows hq.grows) (by omega) (by have t := hq.sl (k := 26) (n := M.length + 1) rfl (by simp); rwa [show List.take (M.length + 1) (M ++ [(⟨z, 0, none, 0, 0⟩ : Mt)]) = M ++ [⟨z, 0, none, 0, 0⟩] from List.take_of_length_le (by simp)] at t) (by omega)
    ((RMs.grows hX hq.grows).append ⟨rm0 _ _ _, trivial⟩) (fun a ha => by
      rcases List.mem_append.1 ha with ha | ha
      · exact hbz a ha
      · have := List.mem_singleton.1 ha; subst this; simp)) ?_
  rintro h1 u h2 hq ⟨⟨C, d, e, er, R, RA, rfl, hr, hn⟩, hg⟩
  have g2 := hq.grows.trans hg
  obtain ⟨hC, hR⟩ := hn.sl
  have hCl := hC.len_eq
  have hRl := hR.len
  clear hn
  rcases hr with ⟨hw', _⟩ | ⟨_, _, rfl, rfl⟩ | ⟨_, hgd, rfl, hp⟩
  · exact absurd hw hw'
  · simp only [List.length_nil] at hRl
    have hd0 : d = 0 := by omega
    subst hd0
    ((repeat' ((conv => whnf); (first | (refine Ar.fit (by first | omega | (simp only [lo, hi]; omega)) ?_) | (refine VC.mk (by (first | omega | rfl | assumption | exact Sl.plain (by assumption) (by omega) | (and_intros <;> first | omega | rfl | assumption | (simp only [List.length_set]; omega) | (simp only [List.length_append, List.length_take, List.length_replicate, List.length_cons, List.length_nil]; omega) | (simp only [ByteArray.size_extract, ByteArray.size_append]; omega) | (simp only [List.length_cons, List.length_nil]; omega) | (simp only [Int.toNat_natCast, Int.toNat_one, List.length_take, List.length_cons, List.length_nil] at *; omega)))) ?_) | (refine Br.mk ?_ ?_ <;> intro hb <;> (try (first | (exfalso; omega) | exact absurd rfl hb | exact Bool.noConfusion hb | exact absurd (fun e => Bool.noConfusion e) hb | (exfalso; simp only [List.length_cons, List.length_nil] at hb; omega) | (exfalso; simp only [Int.toNat_natCast, Int.toNat_one, List.length_take, List.length_cons, List.length_nil] at hb; omega)))) | (refine XLoad.of (by assumption) rfl rfl (by omega) (by omega) rfl ?_) | (refine New.mk ?_; intro b hb) | (refine New2.mk ?_; intro b c hb hbc) | (refine NewO.mk ?_; intro b c hb hbc) | (refine SameR.same ?_) | (refine Two.mk ?_ ?_) | (refine Tri.mk ?_ ?_ ?_) | (refine ed_eql ?_) | (refine ed_neq ?_) | (refine drawn tysOk mixed (by kernel_rfl) ?_) | (apply CallK.pure; (case hh => (intro h1 hs; exact fixed_any h1))) | fail))); all_goals (try (conv => whnf)))
    all_goals exact ⟨fun h' hs => ⟨prop_true rfl, g2.trans hs.grows⟩⟩
  · obtain ⟨a, rfl, ha1, ha2⟩ := one_res hw hgd hp
    simp only [List.length_singleton] at hRl
    have hd0 : d = 1 := by omega
    subst hd0
    have h0 := hR.get matR.dflt ⟨0, 0, []⟩ 0 (by omega) (by omega)
    have h01 : (getI matR.dflt R 0).rule = a.rule := h0.1
    have h02 : (getI matR.dflt R 0).part = a.part := h0.2.1
    ((repeat' ((conv => whnf); (first | (refine Ar.fit (by first | omega | (simp only [lo, hi]; omega)) ?_) | (refine VC.mk (by (first | omega | rfl | assumption | exact Sl.plain (by assumption) (by omega) | (and_intros <;> first | omega | rfl | assumption | (simp only [List.length_set]; omega) | (simp only [List.length_append, List.length_take, List.length_replicate, List.length_cons, List.length_nil]; omega) | (simp only [ByteArray.size_extract, ByteArray.size_append]; omega) | (simp only [List.length_cons, List.length_nil]; omega) | (simp only [Int.toNat_natCast, Int.toNat_one, List.length_take, List.length_cons, List.length_nil] at *; omega)))) ?_) | (refine Br.mk ?_ ?_ <;> intro hb <;> (try (first | (exfalso; omega) | exact absurd rfl hb | exact Bool.noConfusion hb | exact absurd (fun e => Bool.noConfusion e) hb | (exfalso; simp only [List.length_cons, List.length_nil] at hb; omega) | (exfalso; simp only [Int.toNat_natCast, Int.toNat_one, List.length_take, List.length_cons, List.length_nil] at hb; omega)))) | (refine XLoad.of (by assumption) rfl rfl (by omega) (by omega) rfl ?_) | (refine New.mk ?_; intro b hb) | (refine New2.mk ?_; intro b c hb hbc) | (refine NewO.mk ?_; intro b c hb hbc) | (refine SameR.same ?_) | (refine Two.mk ?_ ?_) | (refine Tri.mk ?_ ?_ ?_) | (refine ed_eql ?_) | (refine ed_neq ?_) | (refine drawn tysOk mixed (by kernel_rfl) ?_) | (apply CallK.pure; (case hh => (intro h1 hs; exact fixed_any h1))) | fail))); all_goals (try (conv => whnf)))
    all_goals exact ⟨fun h' hs => ⟨prop_true (by omega), g2.trans hs.grows⟩⟩
end Go.Ex
