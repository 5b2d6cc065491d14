/-
  Tree: the laws of Check, of parts.
-/
import Derived.Test.YtggbpdhhfgmocaaTrJ
namespace Go.Ex
open Go.Proofs
set_option linter.unusedVariables false
attribute [local irreducible] CallsH

set_option maxHeartbeats 1000000 in
set_option maxRecDepth 10000 in
theorem rcheck_any (A : Option Addr) (len cap : Nat) (L : List Nd) (n : Int) (h : Heap) (hA : Sl ndR h A len L) (h2 : len ≤ 2000) :
    CallsH Try.prog 9 #[.slice A len cap, .int .i64 n] h fun v h' => v = .int .i64 (checkV L n) ∧ Grows h h' := by
  refine enter (rep := rep) (m := 5) (ex := []) (cu := []) tysOk Try.func9 rfl (by decide) (rs := [.tmp 4]) rfl rfl [.val (.slice A len cap), .val (.int .i64 n)] rfl ?_
  by_cases ht : TreeP L n
  · have hR := fun h hA => rtree_any A len cap L n h hA h2
    rw [prop_true ht] at hR
    ((repeat' ((conv => whnf); (first | (refine Ar.fit (by omega) ?_) | (refine VC.mk (by (first | omega | rfl | assumption | exact Sl.plain (by assumption) (by omega) | (and_intros <;> first | omega | rfl | assumption | (simp only [List.length_set]; omega) | (simp only [ByteArray.size_extract, ByteArray.size_append]; omega) | (simp only [List.length_cons, List.length_nil]; omega) | (simp only [Int.toNat_natCast, Int.toNat_one, List.length_take, List.length_cons, List.length_nil] at *; omega)))) ?_) | (refine Br.mk ?_ ?_ <;> intro hb <;> (try (first | (exfalso; omega) | exact absurd rfl hb | exact Bool.noConfusion hb | exact absurd (fun e => Bool.noConfusion e) hb | (exfalso; simp only [List.length_cons, List.length_nil] at hb; omega) | (exfalso; simp only [Int.toNat_natCast, Int.toNat_one, List.length_take, List.length_cons, List.length_nil] at hb; omega)))) | (refine XLoad.of (by assumption) rfl rfl (by omega) (by omega) rfl ?_) | (refine New.mk ?_; intro b hb) | (refine New2.mk ?_; intro b c hb hbc) | (refine SameR.same ?_) | (refine Two.mk ?_ ?_) | (refine ed_eql ?_) | (refine ed_neq ?_) | (refine drawn tysOk mixed (by kernel_rfl) ?_) | (apply CallK.pure; (case hh => (intro h1 hs; exact hR _ (hA.grows hs.grows)))) | fail))); all_goals (try (conv => whnf)))
    · exact ⟨fun h' hs => ⟨int_eq (by rw [checkV, if_pos (by omega)]), hs.grows⟩⟩
    · exact ⟨fun h' hs => ⟨int_eq (by rw [checkV, if_pos (by omega)]), hs.grows⟩⟩
    · exact ⟨fun h' hs => ⟨int_eq (by rw [checkV, if_neg (by omega), if_pos ht]), hs.grows⟩⟩
  · have hR := fun h hA => rtree_any A len cap L n h hA h2
    rw [show denC (.prop (TreeP L n)) = .bool false by simp [denC, ht]] at hR
    ((repeat' ((conv => whnf); (first | (refine Ar.fit (by omega) ?_) | (refine VC.mk (by (first | omega | rfl | assumption | exact Sl.plain (by assumption) (by omega) | (and_intros <;> first | omega | rfl | assumption | (simp only [List.length_set]; omega) | (simp only [ByteArray.size_extract, ByteArray.size_append]; omega) | (simp only [List.length_cons, List.length_nil]; omega) | (simp only [Int.toNat_natCast, Int.toNat_one, List.length_take, List.length_cons, List.length_nil] at *; omega)))) ?_) | (refine Br.mk ?_ ?_ <;> intro hb <;> (try (first | (exfalso; omega) | exact absurd rfl hb | exact Bool.noConfusion hb | exact absurd (fun e => Bool.noConfusion e) hb | (exfalso; simp only [List.length_cons, List.length_nil] at hb; omega) | (exfalso; simp only [Int.toNat_natCast, Int.toNat_one, List.length_take, List.length_cons, List.length_nil] at hb; omega)))) | (refine XLoad.of (by assumption) rfl rfl (by omega) (by omega) rfl ?_) | (refine New.mk ?_; intro b hb) | (refine New2.mk ?_; intro b c hb hbc) | (refine SameR.same ?_) | (refine Two.mk ?_ ?_) | (refine ed_eql ?_) | (refine ed_neq ?_) | (refine drawn tysOk mixed (by kernel_rfl) ?_) | (apply CallK.pure; (case hh => (intro h1 hs; exact hR _ (hA.grows hs.grows)))) | fail))); all_goals (try (conv => whnf)))
    · exact ⟨fun h' hs => ⟨int_eq (by rw [checkV, if_pos (by omega)]), hs.grows⟩⟩
    · exact ⟨fun h' hs => ⟨int_eq (by rw [checkV, if_pos (by omega)]), hs.grows⟩⟩
    · exact ⟨fun h' hs => ⟨int_eq (by rw [checkV, if_neg (by omega), if_neg ht]), hs.grows⟩⟩
set_option maxHeartbeats 1000000 in
set_option maxRecDepth 10000 in
theorem checks_law (A : Option Addr) (len cap : Nat) (L : List Nd) (n : Int) (h : Heap) (hA : Sl ndR h A len L) (hr : len * 40 ≤ 140737488355328) :
    CallsH Try.prog 3 #[.slice A len cap, .int .i64 n] h fun v h' => v = .bool true ∧ Grows h h' := by
  refine enter (rep := rep) (m := 5) (ex := []) (cu := []) tysOk Try.func3 rfl (by decide) (rs := [.tmp 4]) rfl rfl [.val (.slice A len cap), .val (.int .i64 n)] rfl ?_
  by_cases h2 : len ≤ 2000
  · ((repeat' ((conv => whnf); (first | (refine Ar.fit (by omega) ?_) | (refine VC.mk (by (first | omega | rfl | assumption | exact Sl.plain (by assumption) (by omega) | (and_intros <;> first | omega | rfl | assumption | (simp only [List.length_set]; omega) | (simp only [ByteArray.size_extract, ByteArray.size_append]; omega) | (simp only [List.length_cons, List.length_nil]; omega) | (simp only [Int.toNat_natCast, Int.toNat_one, List.length_take, List.length_cons, List.length_nil] at *; omega)))) ?_) | (refine Br.mk ?_ ?_ <;> intro hb <;> (try (first | (exfalso; omega) | exact absurd rfl hb | exact Bool.noConfusion hb | exact absurd (fun e => Bool.noConfusion e) hb | (exfalso; simp only [List.length_cons, List.length_nil] at hb; omega) | (exfalso; simp only [Int.toNat_natCast, Int.toNat_one, List.length_take, List.length_cons, List.length_nil] at hb; omega)))) | (refine XLoad.of (by assumption) rfl rfl (by omega) (by omega) rfl ?_) | (refine New.mk ?_; intro b hb) | (refine New2.mk ?_; intro b c hb hbc) | (refine SameR.same ?_) | (refine Two.mk ?_ ?_) | (refine ed_eql ?_) | (refine ed_neq ?_) | (refine drawn tysOk mixed (by kernel_rfl) ?_) | (apply CallK.pure; (case hh => (intro h1 hs; exact fixed_any h1))) | (apply CallK.pure; (case hh => (intro h1 hs; exact check_any _ _ _ _ _ _ (hA.grows hs.grows) hr))) | (apply CallK.pure; (case hh => (intro h1 hs; exact rcheck_any _ _ _ _ _ _ (hA.grows hs.grows) h2))) | fail))); all_goals (try (conv => whnf)))
    exact ⟨fun h' hs => ⟨prop_true rfl, hs.grows⟩⟩
  · ((repeat' ((conv => whnf); (first | (refine Ar.fit (by omega) ?_) | (refine VC.mk (by (first | omega | rfl | assumption | exact Sl.plain (by assumption) (by omega) | (and_intros <;> first | omega | rfl | assumption | (simp only [List.length_set]; omega) | (simp only [ByteArray.size_extract, ByteArray.size_append]; omega) | (simp only [List.length_cons, List.length_nil]; omega) | (simp only [Int.toNat_natCast, Int.toNat_one, List.length_take, List.length_cons, List.length_nil] at *; omega)))) ?_) | (refine Br.mk ?_ ?_ <;> intro hb <;> (try (first | (exfalso; omega) | exact absurd rfl hb | exact Bool.noConfusion hb | exact absurd (fun e => Bool.noConfusion e) hb | (exfalso; simp only [List.length_cons, List.length_nil] at hb; omega) | (exfalso; simp only [Int.toNat_natCast, Int.toNat_one, List.length_take, List.length_cons, List.length_nil] at hb; omega)))) | (refine XLoad.of (by assumption) rfl rfl (by omega) (by omega) rfl ?_) | (refine New.mk ?_; intro b hb) | (refine New2.mk ?_; intro b c hb hbc) | (refine SameR.same ?_) | (refine Two.mk ?_ ?_) | (refine ed_eql ?_) | (refine ed_neq ?_) | (refine drawn tysOk mixed (by kernel_rfl) ?_) | (apply CallK.pure; (case hh => (intro h1 hs; exact fixed_any h1))) | fail))); all_goals (try (conv => whnf)))
    exact ⟨fun h' hs => ⟨prop_true rfl, hs.grows⟩⟩
set_option maxHeartbeats 1000000 in
set_option maxRecDepth 10000 in
theorem parts_law (A : Option Addr) (len cap : Nat) (L : List Nd) (i t : Int) (h : Heap) (hA : Sl ndR h A len L) (hr : len * 40 ≤ 140737488355328) :
    CallsH Try.prog 5 #[.slice A len cap, .int .i64 i, .int .i64 t] h fun v h' => v = .bool true ∧ Grows h h' := by
  refine enter (rep := rep) (m := 13) (ex := []) (cu := []) tysOk Try.func5 rfl (by decide) (rs := [.tmp 6]) rfl rfl [.val (.slice A len cap), .val (.int .i64 i), .val (.int .i64 t)] rfl ?_
  have hL := hA.len_eq
  ((repeat' ((conv => whnf); (first | (refine Ar.fit (by omega) ?_) | (refine VC.mk (by (first | omega | rfl | assumption | exact Sl.plain (by assumption) (by omega) | (and_intros <;> first | omega | rfl | assumption | (simp only [List.length_set]; omega) | (simp only [ByteArray.size_extract, ByteArray.size_append]; omega) | (simp only [List.length_cons, List.length_nil]; omega) | (simp only [Int.toNat_natCast, Int.toNat_one, List.length_take, List.length_cons, List.length_nil] at *; omega)))) ?_) | (refine Br.mk ?_ ?_ <;> intro hb <;> (try (first | (exfalso; omega) | exact absurd rfl hb | exact Bool.noConfusion hb | exact absurd (fun e => Bool.noConfusion e) hb | (exfalso; simp only [List.length_cons, List.length_nil] at hb; omega) | (exfalso; simp only [Int.toNat_natCast, Int.toNat_one, List.length_take, List.length_cons, List.length_nil] at hb; omega)))) | (refine XLoad.of (by assumption) rfl rfl (by omega) (by omega) rfl ?_) | (refine New.mk ?_; intro b hb) | (refine New2.mk ?_; intro b c hb hbc) | (refine SameR.same ?_) | (refine Two.mk ?_ ?_) | (refine ed_eql ?_) | (refine ed_neq ?_) | (refine drawn tysOk mixed (by kernel_rfl) ?_) | fail))); all_goals (try (conv => whnf)))
  refine CallK.epoch (fun h1 hq => wide_any A len cap L h1 (hA.grows hq.grows)) ?_
  rintro h1 u h2 hq ⟨⟨b, rfl, hw⟩, hg⟩
  have hg0 := hq.grows.trans hg
  have hA2 := hA.grows hg0
  rcases b with _ | _
  · have h200 := hw rfl
    ((repeat' ((conv => whnf); (first | (refine Ar.fit (by omega) ?_) | (refine VC.mk (by (first | omega | rfl | assumption | exact Sl.plain (by assumption) (by omega) | (and_intros <;> first | omega | rfl | assumption | (simp only [List.length_set]; omega) | (simp only [ByteArray.size_extract, ByteArray.size_append]; omega) | (simp only [List.length_cons, List.length_nil]; omega) | (simp only [Int.toNat_natCast, Int.toNat_one, List.length_take, List.length_cons, List.length_nil] at *; omega)))) ?_) | (refine Br.mk ?_ ?_ <;> intro hb <;> (try (first | (exfalso; omega) | exact absurd rfl hb | exact Bool.noConfusion hb | exact absurd (fun e => Bool.noConfusion e) hb | (exfalso; simp only [List.length_cons, List.length_nil] at hb; omega) | (exfalso; simp only [Int.toNat_natCast, Int.toNat_one, List.length_take, List.length_cons, List.length_nil] at hb; omega)))) | (refine XLoad.of (by assumption) rfl rfl (by omega) (by omega) rfl ?_) | (refine New.mk ?_; intro b hb) | (refine New2.mk ?_; intro b c hb hbc) | (refine SameR.same ?_) | (refine Two.mk ?_ ?_) | (refine ed_eql ?_) | (refine ed_neq ?_) | (refine drawn tysOk mixed (by kernel_rfl) ?_) | (apply CallK.pure; (case hh => (intro h1 hs; exact end_any _ _ _ _ _ _ (hA2.grows hs.grows) hr))) | (apply CallK.pure; (case hh => (intro h1 hs; exact up_any _ _ _ _ _ _ (hA2.grows hs.grows) hr))) | (apply CallK.pure; (case hh => (intro h1 hs; exact over_any _ _ _ _ _ _ (hA2.grows hs.grows) hr))) | (apply CallK.pure; (case hh => (intro h1 hs; exact depth_any _ _ _ _ _ (hA2.grows hs.grows) hr))) | fail))); all_goals (try (conv => whnf)))
    refine CallK.epoch (fun h1 hq => kids_any A len cap L i h1 (hA2.grows hq.grows) hr) ?_
    rintro h3 u h4 hq2 ⟨hX, hg2⟩
    obtain ⟨X, xl, xc, rfl, hK⟩ := hX.sl
    have hg4 := hg0.trans (hq2.grows.trans hg2)
    have hA4 := hA.grows hg4
    ((repeat' ((conv => whnf); (first | (refine Ar.fit (by omega) ?_) | (refine VC.mk (by (first | omega | rfl | assumption | exact Sl.plain (by assumption) (by omega) | (and_intros <;> first | omega | rfl | assumption | (simp only [List.length_set]; omega) | (simp only [ByteArray.size_extract, ByteArray.size_append]; omega) | (simp only [List.length_cons, List.length_nil]; omega) | (simp only [Int.toNat_natCast, Int.toNat_one, List.length_take, List.length_cons, List.length_nil] at *; omega)))) ?_) | (refine Br.mk ?_ ?_ <;> intro hb <;> (try (first | (exfalso; omega) | exact absurd rfl hb | exact Bool.noConfusion hb | exact absurd (fun e => Bool.noConfusion e) hb | (exfalso; simp only [List.length_cons, List.length_nil] at hb; omega) | (exfalso; simp only [Int.toNat_natCast, Int.toNat_one, List.length_take, List.length_cons, List.length_nil] at hb; omega)))) | (refine XLoad.of (by assumption) rfl rfl (by omega) (by omega) rfl ?_) | (refine New.mk ?_; intro b hb) | (refine New2.mk ?_; intro b c hb hbc) | (refine SameR.same ?_) | (refine Two.mk ?_ ?_) | (refine ed_eql ?_) | (refine ed_neq ?_) | (refine drawn tysOk mixed (by kernel_rfl) ?_) | fail))); all_goals (try (conv => whnf)))
    refine CallK.epoch (fun h1 hq => own_any A len cap L i h1 (hA4.grows hq.grows) hr) ?_
    rintro h5 u h6 hq3 ⟨hY, hg3⟩
    obtain ⟨Y, yl, yc, rfl, hO⟩ := hY.sl
    have hg6 := hg4.trans (hq3.grows.trans hg3)
    have hA6 := hA.grows hg6
    have hK6 := hK.grows (hq3.grows.trans hg3)
    have hkl := hK.len_eq
    have hol := hO.len_eq
    have hR := fun h hA => rtree_any A len cap L 131072 h hA (by omega)
    clear hX hY hq hq2 hq3
    by_cases ht : TreeP L 131072
    · rw [prop_true ht] at hR
      have hDp := fun h hA => rdepth_any A len cap L h hA (by omega) ht
      have hOv : overV L t = overGo L t L.length := by rw [overV, if_pos ht]
      have hRo := fun h hA => rover_any A len cap L t h hA
      rw [← hOv] at hRo
      by_cases hi : 0 ≤ i ∧ i < len
      · have hh : Has L i := ⟨ht, hi.1, by omega⟩
        have hRe := fun h hA => rend_any A len cap L i h hA (by omega) hi.1 (by omega)
        have e1 : rendV L i = endV L i := by
          obtain ⟨E, U, D, p1, _⟩ := ht.root.all
          obtain ⟨n1, n2, _⟩ := ht.root.node i hi.1 (by omega)
          rw [endV, if_pos hh, EL_eq p1]
          exact rend_yes (Ms.cons (by omega) hi.1 (by omega) ⟨n1, n2⟩ (p1.at_ i hi.1 (by omega)) (Ms.nil _))
        rw [e1] at hRe
        have hRu := fun h hA => rup_any A len cap L i h hA (by omega) hh
        ((repeat' ((conv => whnf); (first | (refine Ar.fit (by omega) ?_) | (refine VC.mk (by (first | omega | rfl | assumption | exact Sl.plain (by assumption) (by omega) | (and_intros <;> first | omega | rfl | assumption | (simp only [List.length_set]; omega) | (simp only [ByteArray.size_extract, ByteArray.size_append]; omega) | (simp only [List.length_cons, List.length_nil]; omega) | (simp only [Int.toNat_natCast, Int.toNat_one, List.length_take, List.length_cons, List.length_nil] at *; omega)))) ?_) | (refine Br.mk ?_ ?_ <;> intro hb <;> (try (first | (exfalso; omega) | exact absurd rfl hb | exact Bool.noConfusion hb | exact absurd (fun e => Bool.noConfusion e) hb | (exfalso; simp only [List.length_cons, List.length_nil] at hb; omega) | (exfalso; simp only [Int.toNat_natCast, Int.toNat_one, List.length_take, List.length_cons, List.length_nil] at hb; omega)))) | (refine XLoad.of (by assumption) rfl rfl (by omega) (by omega) rfl ?_) | (refine New.mk ?_; intro b hb) | (refine New2.mk ?_; intro b c hb hbc) | (refine SameR.same ?_) | (refine Two.mk ?_ ?_) | (refine ed_eql ?_) | (refine ed_neq ?_) | (refine drawn tysOk mixed (by kernel_rfl) ?_) | (apply CallK.pure; (case hh => (intro h1 hs; exact hR _ (hA6.grows hs.grows)))) | (apply CallK.pure; (case hh => (intro h1 hs; exact hRo _ (hA6.grows hs.grows)))) | (apply CallK.pure; (case hh => (intro h1 hs; exact hDp _ (hA6.grows hs.grows)))) | (apply CallK.pure; (case hh => (intro h1 hs; exact fixed_any h1))) | (apply CallK.pure; (case hh => (intro h1 hs; exact hRe _ (hA6.grows hs.grows)))) | (apply CallK.pure; (case hh => (intro h1 hs; exact hRu _ (hA6.grows hs.grows)))) | fail))); all_goals (try (conv => whnf)))
        refine CallK.epoch (fun h1 hq => rkids_any A len cap L i h1 (hA6.grows hq.grows) (by omega) hh) ?_
        rintro h7 u h8 hq4 ⟨hZ, hg7⟩
        obtain ⟨Z, zl, zc, rfl, hZk⟩ := hZ.sl
        have hgx := hq4.grows.trans hg7
        have hg8 := hg6.trans hgx
        have hA8 := hA.grows hg8
        have hK8 := hK6.grows hgx
        have hO8 := hO.grows hgx
        clear hZ hq4
        ((repeat' ((conv => whnf); (first | (refine Ar.fit (by omega) ?_) | (refine VC.mk (by (first | omega | rfl | assumption | exact Sl.plain (by assumption) (by omega) | (and_intros <;> first | omega | rfl | assumption | (simp only [List.length_set]; omega) | (simp only [ByteArray.size_extract, ByteArray.size_append]; omega) | (simp only [List.length_cons, List.length_nil]; omega) | (simp only [Int.toNat_natCast, Int.toNat_one, List.length_take, List.length_cons, List.length_nil] at *; omega)))) ?_) | (refine Br.mk ?_ ?_ <;> intro hb <;> (try (first | (exfalso; omega) | exact absurd rfl hb | exact Bool.noConfusion hb | exact absurd (fun e => Bool.noConfusion e) hb | (exfalso; simp only [List.length_cons, List.length_nil] at hb; omega) | (exfalso; simp only [Int.toNat_natCast, Int.toNat_one, List.length_take, List.length_cons, List.length_nil] at hb; omega)))) | (refine XLoad.of (by assumption) rfl rfl (by omega) (by omega) rfl ?_) | (refine New.mk ?_; intro b hb) | (refine New2.mk ?_; intro b c hb hbc) | (refine SameR.same ?_) | (refine Two.mk ?_ ?_) | (refine ed_eql ?_) | (refine ed_neq ?_) | (refine drawn tysOk mixed (by kernel_rfl) ?_) | (apply CallK.pure; (case hh => (intro h1 hs; exact (ints_any _ _ _ _ _ _ _ _ _ (hK8.grows hs.grows) (hZk.grows hs.grows)).mono (fun v h' ⟨e1, e2⟩ => ⟨e1.trans (prop_true rfl), e2⟩)))) | fail))); all_goals (try (conv => whnf)))
        refine CallK.epoch (fun h1 hq => rown_any A len cap L i h1 (hA8.grows hq.grows) (by omega) hh) ?_
        rintro h9 u h10 hq5 ⟨hV, hg9⟩
        obtain ⟨V, vl, vc, rfl, hVk⟩ := hV.sl
        have hgy := hq5.grows.trans hg9
        have hg10 := hg8.trans hgy
        have hO10 := hO8.grows hgy
        clear hV hq5
        ((repeat' ((conv => whnf); (first | (refine Ar.fit (by omega) ?_) | (refine VC.mk (by (first | omega | rfl | assumption | exact Sl.plain (by assumption) (by omega) | (and_intros <;> first | omega | rfl | assumption | (simp only [List.length_set]; omega) | (simp only [ByteArray.size_extract, ByteArray.size_append]; omega) | (simp only [List.length_cons, List.length_nil]; omega) | (simp only [Int.toNat_natCast, Int.toNat_one, List.length_take, List.length_cons, List.length_nil] at *; omega)))) ?_) | (refine Br.mk ?_ ?_ <;> intro hb <;> (try (first | (exfalso; omega) | exact absurd rfl hb | exact Bool.noConfusion hb | exact absurd (fun e => Bool.noConfusion e) hb | (exfalso; simp only [List.length_cons, List.length_nil] at hb; omega) | (exfalso; simp only [Int.toNat_natCast, Int.toNat_one, List.length_take, List.length_cons, List.length_nil] at hb; omega)))) | (refine XLoad.of (by assumption) rfl rfl (by omega) (by omega) rfl ?_) | (refine New.mk ?_; intro b hb) | (refine New2.mk ?_; intro b c hb hbc) | (refine SameR.same ?_) | (refine Two.mk ?_ ?_) | (refine ed_eql ?_) | (refine ed_neq ?_) | (refine drawn tysOk mixed (by kernel_rfl) ?_) | (apply CallK.pure; (case hh => (intro h1 hs; exact (ints_any _ _ _ _ _ _ _ _ _ (hO10.grows hs.grows) (hVk.grows hs.grows)).mono (fun v h' ⟨e1, e2⟩ => ⟨e1.trans (prop_true rfl), e2⟩)))) | fail))); all_goals (try (conv => whnf)))
        exact ⟨fun h' hs => ⟨prop_true rfl, hg10.trans hs.grows⟩⟩
      · have hno : ¬ Has L i := fun h => by have := h.2; omega
        have k1 : endV L i = -1 := by rw [endV, if_neg hno]
        have k2 : upV L i = -1 := by rw [upV, if_neg hno]
        have k3 : xl = 0 := by rw [← hkl, kidsV, if_neg hno]; rfl
        have k4 : yl = 0 := by rw [← hol, ownV, if_neg hno]; rfl
        ((repeat' ((conv => whnf); (first | (refine Ar.fit (by omega) ?_) | (refine VC.mk (by (first | omega | rfl | assumption | exact Sl.plain (by assumption) (by omega) | (and_intros <;> first | omega | rfl | assumption | (simp only [List.length_set]; omega) | (simp only [ByteArray.size_extract, ByteArray.size_append]; omega) | (simp only [List.length_cons, List.length_nil]; omega) | (simp only [Int.toNat_natCast, Int.toNat_one, List.length_take, List.length_cons, List.length_nil] at *; omega)))) ?_) | (refine Br.mk ?_ ?_ <;> intro hb <;> (try (first | (exfalso; omega) | exact absurd rfl hb | exact Bool.noConfusion hb | exact absurd (fun e => Bool.noConfusion e) hb | (exfalso; simp only [List.length_cons, List.length_nil] at hb; omega) | (exfalso; simp only [Int.toNat_natCast, Int.toNat_one, List.length_take, List.length_cons, List.length_nil] at hb; omega)))) | (refine XLoad.of (by assumption) rfl rfl (by omega) (by omega) rfl ?_) | (refine New.mk ?_; intro b hb) | (refine New2.mk ?_; intro b c hb hbc) | (refine SameR.same ?_) | (refine Two.mk ?_ ?_) | (refine ed_eql ?_) | (refine ed_neq ?_) | (refine drawn tysOk mixed (by kernel_rfl) ?_) | (apply CallK.pure; (case hh => (intro h1 hs; exact hR _ (hA6.grows hs.grows)))) | (apply CallK.pure; (case hh => (intro h1 hs; exact hRo _ (hA6.grows hs.grows)))) | (apply CallK.pure; (case hh => (intro h1 hs; exact hDp _ (hA6.grows hs.grows)))) | (apply CallK.pure; (case hh => (intro h1 hs; exact fixed_any h1))) | fail))); all_goals (try (conv => whnf)))
        all_goals exact ⟨fun h' hs => ⟨prop_true (by omega), hg6.trans hs.grows⟩⟩
    · rw [show denC (.prop (TreeP L 131072)) = .bool false by simp [denC, ht]] at hR
      have hno : ¬ Has L i := fun h => ht h.1
      have k1 : endV L i = -1 := by rw [endV, if_neg hno]
      have k2 : upV L i = -1 := by rw [upV, if_neg hno]
      have k3 : xl = 0 := by rw [← hkl, kidsV, if_neg hno]; rfl
      have k4 : yl = 0 := by rw [← hol, ownV, if_neg hno]; rfl
      have k5 : depthV L = 0 := by rw [depthV, if_neg ht]
      have k6 : overV L t = -1 := by rw [overV, if_neg ht]
      ((repeat' ((conv => whnf); (first | (refine Ar.fit (by omega) ?_) | (refine VC.mk (by (first | omega | rfl | assumption | exact Sl.plain (by assumption) (by omega) | (and_intros <;> first | omega | rfl | assumption | (simp only [List.length_set]; omega) | (simp only [ByteArray.size_extract, ByteArray.size_append]; omega) | (simp only [List.length_cons, List.length_nil]; omega) | (simp only [Int.toNat_natCast, Int.toNat_one, List.length_take, List.length_cons, List.length_nil] at *; omega)))) ?_) | (refine Br.mk ?_ ?_ <;> intro hb <;> (try (first | (exfalso; omega) | exact absurd rfl hb | exact Bool.noConfusion hb | exact absurd (fun e => Bool.noConfusion e) hb | (exfalso; simp only [List.length_cons, List.length_nil] at hb; omega) | (exfalso; simp only [Int.toNat_natCast, Int.toNat_one, List.length_take, List.length_cons, List.length_nil] at hb; omega)))) | (refine XLoad.of (by assumption) rfl rfl (by omega) (by omega) rfl ?_) | (refine New.mk ?_; intro b hb) | (refine New2.mk ?_; intro b c hb hbc) | (refine SameR.same ?_) | (refine Two.mk ?_ ?_) | (refine ed_eql ?_) | (refine ed_neq ?_) | (refine drawn tysOk mixed (by kernel_rfl) ?_) | (apply CallK.pure; (case hh => (intro h1 hs; exact hR _ (hA6.grows hs.grows)))) | (apply CallK.pure; (case hh => (intro h1 hs; exact fixed_any h1))) | fail))); all_goals (try (conv => whnf)))
      all_goals exact ⟨fun h' hs => ⟨prop_true (by omega), hg6.trans hs.grows⟩⟩
  · ((repeat' ((conv => whnf); (first | (refine Ar.fit (by omega) ?_) | (refine VC.mk (by (first | omega | rfl | assumption | exact Sl.plain (by assumption) (by omega) | (and_intros <;> first | omega | rfl | assumption | (simp only [List.length_set]; omega) | (simp only [ByteArray.size_extract, ByteArray.size_append]; omega) | (simp only [List.length_cons, List.length_nil]; omega) | (simp only [Int.toNat_natCast, Int.toNat_one, List.length_take, List.length_cons, List.length_nil] at *; omega)))) ?_) | (refine Br.mk ?_ ?_ <;> intro hb <;> (try (first | (exfalso; omega) | exact absurd rfl hb | exact Bool.noConfusion hb | exact absurd (fun e => Bool.noConfusion e) hb | (exfalso; simp only [List.length_cons, List.length_nil] at hb; omega) | (exfalso; simp only [Int.toNat_natCast, Int.toNat_one, List.length_take, List.length_cons, List.length_nil] at hb; omega)))) | (refine XLoad.of (by assumption) rfl rfl (by omega) (by omega) rfl ?_) | (refine New.mk ?_; intro b hb) | (refine New2.mk ?_; intro b c hb hbc) | (refine SameR.same ?_) | (refine Two.mk ?_ ?_) | (refine ed_eql ?_) | (refine ed_neq ?_) | (refine drawn tysOk mixed (by kernel_rfl) ?_) | (apply CallK.pure; (case hh => (intro h1 hs; exact fixed_any h1))) | fail))); all_goals (try (conv => whnf)))
    exact ⟨fun h' hs => ⟨prop_true rfl, hg0.trans hs.grows⟩⟩
end Go.Ex
