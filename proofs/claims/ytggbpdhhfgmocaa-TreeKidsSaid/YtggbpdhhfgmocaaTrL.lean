/-
  Tree: the law of kids.
-/
import Derived.Test.YtggbpdhhfgmocaaTrJ
namespace Go.Ex
open Go.Proofs
set_option linter.unusedVariables false
attribute [local irreducible] CallsH

theorem kch_len (E : List Int) : ∀ (c : Nat) (k : Int), (kch E c k).length = c
  | 0, k => rfl
  | c + 1, k => by simp [kch, kch_len E c]
theorem UpsOk.is {L : List Nd} {E U : List Int} (hU : UpsOk L E U) {i q : Int} (h0 : 0 ≤ i) (h1 : i < q) (h2 : q < L.length) (h3 : q < getI 0 E i) (h4 : ∀ k, i < k → k < q → getI 0 E k ≤ q) : getI 0 U q = i := by
  rcases hU.at_ q (by omega) h2 with ⟨a, _⟩ | ⟨a1, a2, a3, a4, a5⟩
  · omega
  · by_cases hp : getI 0 U q < i
    · have := a5 i hp h1; omega
    · by_cases hp2 : i < getI 0 U q
      · have := h4 _ hp2 a3; omega
      · omega
theorem EndsOk.nest {L : List Nd} {E : List Int} (hE : EndsOk L E) {q : Int} (h0 : 0 ≤ q) (h1 : q < L.length) (k : Int) (h2 : q < k) (h3 : k < getI 0 E q) : getI 0 E k ≤ getI 0 E q := by
  obtain ⟨_, h4, e, h5, h6⟩ := Kd.nest (hE.at_ q h0 h1) k (by omega) h3
  have : getI 0 E k = e := Kd.uniq (hE.at_ k (by omega) h4) h6
  omega
set_option maxHeartbeats 1000000 in
set_option maxRecDepth 10000 in
theorem kids_law (A : Option Addr) (len cap : Nat) (L : List Nd) (h : Heap) (hA : Sl ndR h A len L) (hr : len * 40 ≤ 140737488355328) :
    CallsH Try.prog 6 #[.slice A len cap] h fun v h' => v = .bool true ∧ Grows h h' := by
  refine enter (rep := rep) (m := 7) (ex := []) (cu := []) tysOk Try.func6 rfl (by decide) (rs := [.tmp 2]) rfl rfl [.val (.slice A len cap)] rfl ?_
  have hL := hA.len_eq
  have hCk := fun h hA => check_any A len cap L 131072 h hA hr
  by_cases ht : TreeP L 131072
  · have hc : checkV L 131072 = 0 := by rw [checkV, if_neg (by omega), if_pos ht]
    rw [hc] at hCk
    by_cases h100 : len ≤ 100
    · obtain ⟨E, U, D, p1, p2, p3, p4⟩ := ht.root.all
      have hroot := ht.root.ends p1
      have h00 := ht.1
      have hEv : ∀ i : Int, 0 ≤ i → i < len → ∀ h, Sl ndR h A len L → CallsH Try.prog 13 #[.slice A len cap, .int .i64 i] h fun v h' => v = .int .i64 (getI 0 E i) ∧ Grows h h' := fun i h0 h1 h hA => by
        have := end_any A len cap L i h hA hr
        rwa [endV, if_pos ⟨ht, h0, by omega⟩, EL_eq p1] at this
      have hUv : ∀ i : Int, 0 ≤ i → i < len → ∀ h, Sl ndR h A len L → CallsH Try.prog 14 #[.slice A len cap, .int .i64 i] h fun v h' => v = .int .i64 (getI 0 U i) ∧ Grows h h' := fun i h0 h1 h hA => by
        have := up_any A len cap L i h hA hr
        rwa [upV, if_pos ⟨ht, h0, by omega⟩, UL_eq p1 p2] at this
      ((repeat' ((conv => whnf); (first | (refine Ar.fit (by omega) ?_) | (refine VC.mk (by (first | omega | rfl | assumption | exact Sl.plain (by assumption) (by omega) | (and_intros <;> first | omega | rfl | assumption | (simp only [List.length_set]; omega) | (simp only [ByteArray.size_extract, ByteArray.size_append]; omega) | (simp only [List.length_cons, List.length_nil]; omega) | (simp only [Int.toNat_natCast, Int.toNat_one, List.length_take, List.length_cons, List.length_nil] at *; omega)))) ?_) | (refine Br.mk ?_ ?_ <;> intro hb <;> (try (first | (exfalso; omega) | exact absurd rfl hb | exact Bool.noConfusion hb | exact absurd (fun e => Bool.noConfusion e) hb | (exfalso; simp only [List.length_cons, List.length_nil] at hb; omega) | (exfalso; simp only [Int.toNat_natCast, Int.toNat_one, List.length_take, List.length_cons, List.length_nil] at hb; omega)))) | (refine XLoad.of (by assumption) rfl rfl (by omega) (by omega) rfl ?_) | (refine New.mk ?_; intro b hb) | (refine New2.mk ?_; intro b c hb hbc) | (refine SameR.same ?_) | (refine Two.mk ?_ ?_) | (refine ed_eql ?_) | (refine ed_neq ?_) | (refine drawn tysOk mixed (by kernel_rfl) ?_) | (apply CallK.pure; (case hh => (intro h1 hs; exact hCk _ (hA.grows hs.grows)))) | fail))); all_goals (try (conv => whnf)))
      refine loop_rule tysOk [3] (fun x : Int => [(3, .val (.int .i64 x))]) (fun _ => []) (fun μ x => 0 ≤ x ∧ x ≤ len ∧ μ = (len - x).toNat) len 0 ?_
      conv => whnf
      refine ⟨by ((repeat (refine ⟨rfl, ?_⟩)); trivial), trivial, ⟨by simp, by simp, by simp⟩, ?_⟩
      rintro μ i ⟨a0, a1, a2⟩
      by_cases hi : i < len
      · have hh : Has L i := ⟨ht, a0, by omega⟩
        obtain ⟨K, hK⟩ : ∃ K, K = kidsV L i := ⟨_, rfl⟩
        have hK2 := hh.ends p1
        rw [← hK] at hK2
        have hkl : K.length = (nd L i).c.toNat := by rw [hK2, kch_len]
        obtain ⟨n1, n2, _⟩ := ht.root.node i a0 (by omega)
        have hms := p1.at_ i a0 (by omega)
        have hle := p1.le i a0 (by omega)
        have hEi := hEv i a0 hi
        simp only [nd] at n1 n2 hkl
        ((repeat' ((conv => whnf); (first | (refine Ar.fit (by omega) ?_) | (refine VC.mk (by (first | omega | rfl | assumption | exact Sl.plain (by assumption) (by omega) | (and_intros <;> first | omega | rfl | assumption | (simp only [List.length_set]; omega) | (simp only [ByteArray.size_extract, ByteArray.size_append]; omega) | (simp only [List.length_cons, List.length_nil]; omega) | (simp only [Int.toNat_natCast, Int.toNat_one, List.length_take, List.length_cons, List.length_nil] at *; omega)))) ?_) | (refine Br.mk ?_ ?_ <;> intro hb <;> (try (first | (exfalso; omega) | exact absurd rfl hb | exact Bool.noConfusion hb | exact absurd (fun e => Bool.noConfusion e) hb | (exfalso; simp only [List.length_cons, List.length_nil] at hb; omega) | (exfalso; simp only [Int.toNat_natCast, Int.toNat_one, List.length_take, List.length_cons, List.length_nil] at hb; omega)))) | (refine XLoad.of (by assumption) rfl rfl (by omega) (by omega) rfl ?_) | (refine New.mk ?_; intro b hb) | (refine New2.mk ?_; intro b c hb hbc) | (refine SameR.same ?_) | (refine Two.mk ?_ ?_) | (refine ed_eql ?_) | (refine ed_neq ?_) | (refine drawn tysOk mixed (by kernel_rfl) ?_) | fail))); all_goals (try (conv => whnf)))
        refine CallK.fresh (R := intR .i64) (T := 3) (L := K) 101 (fun v => v) (fun kv => kv) rfl (fun _ _ _ => rfl) (fun h1 hs => (kids_any A len cap L i h1 (hA.grows hs.grows) hr).mono fun v h' ⟨a, b⟩ => ⟨v, rfl, by rw [hK]; exact a, b⟩) (fun e => ?_) (fun b c hb hbc => ?_)
        · subst e
          have hc0 : (getI ndR.dflt L i).c = 0 := by simp at hkl; omega
          have he : getI 0 E i = i + 1 := by simp only [nd] at hms; rw [hc0] at hms; exact Kd.zero hms
          ((repeat' ((conv => whnf); (first | (refine Ar.fit (by omega) ?_) | (refine VC.mk (by (first | omega | rfl | assumption | exact Sl.plain (by assumption) (by omega) | (and_intros <;> first | omega | rfl | assumption | (simp only [List.length_set]; omega) | (simp only [ByteArray.size_extract, ByteArray.size_append]; omega) | (simp only [List.length_cons, List.length_nil]; omega) | (simp only [Int.toNat_natCast, Int.toNat_one, List.length_take, List.length_cons, List.length_nil] at *; omega)))) ?_) | (refine Br.mk ?_ ?_ <;> intro hb <;> (try (first | (exfalso; omega) | exact absurd rfl hb | exact Bool.noConfusion hb | exact absurd (fun e => Bool.noConfusion e) hb | (exfalso; simp only [List.length_cons, List.length_nil] at hb; omega) | (exfalso; simp only [Int.toNat_natCast, Int.toNat_one, List.length_take, List.length_cons, List.length_nil] at hb; omega)))) | (refine XLoad.of (by assumption) rfl rfl (by omega) (by omega) rfl ?_) | (refine New.mk ?_; intro b hb) | (refine New2.mk ?_; intro b c hb hbc) | (refine SameR.same ?_) | (refine Two.mk ?_ ?_) | (refine ed_eql ?_) | (refine ed_neq ?_) | (refine drawn tysOk mixed (by kernel_rfl) ?_) | fail))); all_goals (try (conv => whnf)))
          refine loop_rule tysOk [5, 6] (fun x : Int × Int => [(5, .val (.int .i64 x.1)), (6, .val (.int .i64 x.2))]) (fun _ => []) (fun μ x => x.1 = i + 1 ∧ x.2 = 0) 0 (i + 1, 0) ?_
          conv => whnf
          refine ⟨by ((repeat (refine ⟨rfl, ?_⟩)); trivial), trivial, ⟨rfl, rfl⟩, ?_⟩
          rintro ν ⟨q, k⟩ ⟨b0, b1⟩
          dsimp only at b0 b1
          subst b0 b1
          ((repeat' ((conv => whnf); (first | (refine Ar.fit (by omega) ?_) | (refine VC.mk (by (first | omega | rfl | assumption | exact Sl.plain (by assumption) (by omega) | (and_intros <;> first | omega | rfl | assumption | (simp only [List.length_set]; omega) | (simp only [ByteArray.size_extract, ByteArray.size_append]; omega) | (simp only [List.length_cons, List.length_nil]; omega) | (simp only [Int.toNat_natCast, Int.toNat_one, List.length_take, List.length_cons, List.length_nil] at *; omega)))) ?_) | (refine Br.mk ?_ ?_ <;> intro hb <;> (try (first | (exfalso; omega) | exact absurd rfl hb | exact Bool.noConfusion hb | exact absurd (fun e => Bool.noConfusion e) hb | (exfalso; simp only [List.length_cons, List.length_nil] at hb; omega) | (exfalso; simp only [Int.toNat_natCast, Int.toNat_one, List.length_take, List.length_cons, List.length_nil] at hb; omega)))) | (refine XLoad.of (by assumption) rfl rfl (by omega) (by omega) rfl ?_) | (refine New.mk ?_; intro b hb) | (refine New2.mk ?_; intro b c hb hbc) | (refine SameR.same ?_) | (refine Two.mk ?_ ?_) | (refine ed_eql ?_) | (refine ed_neq ?_) | (refine drawn tysOk mixed (by kernel_rfl) ?_) | (apply CallK.pure; (case hh => (intro h1 hs; exact hEi _ (hA.grows hs.grows)))) | fail))); all_goals (try (conv => whnf)))
          refine ⟨μ - 1, i + 1, ⟨by omega, by omega, by omega⟩, by omega, by ((repeat (refine ⟨rfl, ?_⟩)); trivial), rfl, rfl, trivial⟩
        · ((repeat' ((conv => whnf); (first | (refine Ar.fit (by omega) ?_) | (refine VC.mk (by (first | omega | rfl | assumption | exact Sl.plain (by assumption) (by omega) | (and_intros <;> first | omega | rfl | assumption | (simp only [List.length_set]; omega) | (simp only [ByteArray.size_extract, ByteArray.size_append]; omega) | (simp only [List.length_cons, List.length_nil]; omega) | (simp only [Int.toNat_natCast, Int.toNat_one, List.length_take, List.length_cons, List.length_nil] at *; omega)))) ?_) | (refine Br.mk ?_ ?_ <;> intro hb <;> (try (first | (exfalso; omega) | exact absurd rfl hb | exact Bool.noConfusion hb | exact absurd (fun e => Bool.noConfusion e) hb | (exfalso; simp only [List.length_cons, List.length_nil] at hb; omega) | (exfalso; simp only [Int.toNat_natCast, Int.toNat_one, List.length_take, List.length_cons, List.length_nil] at hb; omega)))) | (refine XLoad.of (by assumption) rfl rfl (by omega) (by omega) rfl ?_) | (refine New.mk ?_; intro b hb) | (refine New2.mk ?_; intro b c hb hbc) | (refine SameR.same ?_) | (refine Two.mk ?_ ?_) | (refine ed_eql ?_) | (refine ed_neq ?_) | (refine drawn tysOk mixed (by kernel_rfl) ?_) | fail))); all_goals (try (conv => whnf)))
          refine loop_rule tysOk [5, 6] (fun x : Int × Int => [(5, .val (.int .i64 x.1)), (6, .val (.int .i64 x.2))]) (fun _ => [(101, b, .arr 3 (intR .i64) K c)]) (fun μ x => 0 ≤ x.2 ∧ i < x.1 ∧ ∃ c' : Int, Ms L x.1 c' (getI 0 E i) ∧ x.2 + c' = K.length ∧ K.drop x.2.toNat = kch E c'.toNat x.1 ∧ (∀ k, i < k → k < x.1 → getI 0 E k ≤ x.1) ∧ μ = c'.toNat) K.length (i + 1, 0) ?_
          conv => whnf
          refine ⟨by ((repeat (refine ⟨rfl, ?_⟩)); trivial), ⟨rfl, rfl, trivial⟩, ⟨by simp, by dsimp only; omega, (nd L i).c, hms, by simp only [nd]; omega, by simpa using hK2, fun k h1 h2 => by dsimp only at h2; omega, by simp only [nd]; omega⟩, ?_⟩
          rintro ν ⟨q, k⟩ ⟨b0, b1, c', b2, b3, b4, b5, b6⟩
          dsimp only at b0 b1 b2 b3 b4 b5 b6 ⊢
          have z1 : getI (intR .i64).dflt K k = getI 0 K k := rfl
          rcases b2.cases with ⟨g, ek⟩ | ⟨g1, g2, g3, g4, g5, m, g6, g7⟩
          · subst g
            ((repeat' ((conv => whnf); (first | (refine Ar.fit (by omega) ?_) | (refine VC.mk (by (first | omega | rfl | assumption | exact Sl.plain (by assumption) (by omega) | (and_intros <;> first | omega | rfl | assumption | (simp only [List.length_set]; omega) | (simp only [ByteArray.size_extract, ByteArray.size_append]; omega) | (simp only [List.length_cons, List.length_nil]; omega) | (simp only [Int.toNat_natCast, Int.toNat_one, List.length_take, List.length_cons, List.length_nil] at *; omega)))) ?_) | (refine Br.mk ?_ ?_ <;> intro hb <;> (try (first | (exfalso; omega) | exact absurd rfl hb | exact Bool.noConfusion hb | exact absurd (fun e => Bool.noConfusion e) hb | (exfalso; simp only [List.length_cons, List.length_nil] at hb; omega) | (exfalso; simp only [Int.toNat_natCast, Int.toNat_one, List.length_take, List.length_cons, List.length_nil] at hb; omega)))) | (refine XLoad.of (by assumption) rfl rfl (by omega) (by omega) rfl ?_) | (refine New.mk ?_; intro b hb) | (refine New2.mk ?_; intro b c hb hbc) | (refine SameR.same ?_) | (refine Two.mk ?_ ?_) | (refine ed_eql ?_) | (refine ed_neq ?_) | (refine drawn tysOk mixed (by kernel_rfl) ?_) | (apply CallK.pure; (case hh => (intro h1 hs; exact hEi _ (hA.grows hs.grows)))) | fail))); all_goals (try (conv => whnf)))
            refine ⟨μ - 1, i + 1, ⟨by omega, by omega, by omega⟩, by omega, by ((repeat (refine ⟨rfl, ?_⟩)); trivial), rfl, rfl, trivial⟩
          · have hge := Kd.ge g6
            have hge2 := Kd.ge g7
            have hm : getI 0 E q = m := (p1.at_ q g2 g3).uniq g6
            have hU : getI 0 U q = i := p2.is a0 b1 g3 (by omega) b5
            have hEq := hEv q g2 (by omega)
            have hUq := hUv q g2 (by omega)
            rw [hU] at hUq
            rw [drop_get 0 K k b0 (by omega), show c'.toNat = (c' - 1).toNat + 1 by omega] at b4
            simp only [kch, List.cons.injEq] at b4
            obtain ⟨b4, b7⟩ := b4
            ((repeat' ((conv => whnf); (first | (refine Ar.fit (by omega) ?_) | (refine VC.mk (by (first | omega | rfl | assumption | exact Sl.plain (by assumption) (by omega) | (and_intros <;> first | omega | rfl | assumption | (simp only [List.length_set]; omega) | (simp only [ByteArray.size_extract, ByteArray.size_append]; omega) | (simp only [List.length_cons, List.length_nil]; omega) | (simp only [Int.toNat_natCast, Int.toNat_one, List.length_take, List.length_cons, List.length_nil] at *; omega)))) ?_) | (refine Br.mk ?_ ?_ <;> intro hb <;> (try (first | (exfalso; omega) | exact absurd rfl hb | exact Bool.noConfusion hb | exact absurd (fun e => Bool.noConfusion e) hb | (exfalso; simp only [List.length_cons, List.length_nil] at hb; omega) | (exfalso; simp only [Int.toNat_natCast, Int.toNat_one, List.length_take, List.length_cons, List.length_nil] at hb; omega)))) | (refine XLoad.of (by assumption) rfl rfl (by omega) (by omega) rfl ?_) | (refine New.mk ?_; intro b hb) | (refine New2.mk ?_; intro b c hb hbc) | (refine SameR.same ?_) | (refine Two.mk ?_ ?_) | (refine ed_eql ?_) | (refine ed_neq ?_) | (refine drawn tysOk mixed (by kernel_rfl) ?_) | (apply CallK.pure; (case hh => (intro h1 hs; exact hEq _ (hA.grows hs.grows)))) | (apply CallK.pure; (case hh => (intro h1 hs; exact hUq _ (hA.grows hs.grows)))) | fail))); all_goals (try (conv => whnf)))
            refine ⟨ν - 1, ⟨getI 0 E q, k + 1⟩, ⟨by dsimp only; omega, by dsimp only; omega, c' - 1, by dsimp only; rw [hm]; exact g7, by dsimp only; omega, b7, fun j h1 h2 => ?_, by omega⟩, by omega, by ((repeat (refine ⟨rfl, ?_⟩)); trivial), rfl, rfl, ⟨rfl, rfl, trivial⟩⟩
            dsimp only at h2 ⊢
            by_cases hj : j < q
            · have := b5 j h1 hj; omega
            · by_cases hj2 : j = q
              · subst hj2; omega
              · exact p1.nest g2 g3 j (by omega) h2
      · have hE0 := hEv 0 (by omega) (by omega)
        have hU0 := hUv 0 (by omega) (by omega)
        rw [hroot] at hE0
        have hu0 : getI 0 U 0 = -1 := by
          rcases p2.at_ 0 (by omega) (by omega) with ⟨_, g⟩ | ⟨g, _⟩
          · exact g
          · omega
        rw [hu0] at hU0
        ((repeat' ((conv => whnf); (first | (refine Ar.fit (by omega) ?_) | (refine VC.mk (by (first | omega | rfl | assumption | exact Sl.plain (by assumption) (by omega) | (and_intros <;> first | omega | rfl | assumption | (simp only [List.length_set]; omega) | (simp only [ByteArray.size_extract, ByteArray.size_append]; omega) | (simp only [List.length_cons, List.length_nil]; omega) | (simp only [Int.toNat_natCast, Int.toNat_one, List.length_take, List.length_cons, List.length_nil] at *; omega)))) ?_) | (refine Br.mk ?_ ?_ <;> intro hb <;> (try (first | (exfalso; omega) | exact absurd rfl hb | exact Bool.noConfusion hb | exact absurd (fun e => Bool.noConfusion e) hb | (exfalso; simp only [List.length_cons, List.length_nil] at hb; omega) | (exfalso; simp only [Int.toNat_natCast, Int.toNat_one, List.length_take, List.length_cons, List.length_nil] at hb; omega)))) | (refine XLoad.of (by assumption) rfl rfl (by omega) (by omega) rfl ?_) | (refine New.mk ?_; intro b hb) | (refine New2.mk ?_; intro b c hb hbc) | (refine SameR.same ?_) | (refine Two.mk ?_ ?_) | (refine ed_eql ?_) | (refine ed_neq ?_) | (refine drawn tysOk mixed (by kernel_rfl) ?_) | (apply CallK.pure; (case hh => (intro h1 hs; exact fixed_any h1))) | (apply CallK.pure; (case hh => (intro h1 hs; exact hE0 _ (hA.grows hs.grows)))) | (apply CallK.pure; (case hh => (intro h1 hs; exact hU0 _ (hA.grows hs.grows)))) | fail))); all_goals (try (conv => whnf)))
        exact ⟨fun h' hs => ⟨prop_true rfl, hs.grows⟩⟩
    · ((repeat' ((conv => whnf); (first | (refine Ar.fit (by omega) ?_) | (refine VC.mk (by (first | omega | rfl | assumption | exact Sl.plain (by assumption) (by omega) | (and_intros <;> first | omega | rfl | assumption | (simp only [List.length_set]; omega) | (simp only [ByteArray.size_extract, ByteArray.size_append]; omega) | (simp only [List.length_cons, List.length_nil]; omega) | (simp only [Int.toNat_natCast, Int.toNat_one, List.length_take, List.length_cons, List.length_nil] at *; omega)))) ?_) | (refine Br.mk ?_ ?_ <;> intro hb <;> (try (first | (exfalso; omega) | exact absurd rfl hb | exact Bool.noConfusion hb | exact absurd (fun e => Bool.noConfusion e) hb | (exfalso; simp only [List.length_cons, List.length_nil] at hb; omega) | (exfalso; simp only [Int.toNat_natCast, Int.toNat_one, List.length_take, List.length_cons, List.length_nil] at hb; omega)))) | (refine XLoad.of (by assumption) rfl rfl (by omega) (by omega) rfl ?_) | (refine New.mk ?_; intro b hb) | (refine New2.mk ?_; intro b c hb hbc) | (refine SameR.same ?_) | (refine Two.mk ?_ ?_) | (refine ed_eql ?_) | (refine ed_neq ?_) | (refine drawn tysOk mixed (by kernel_rfl) ?_) | (apply CallK.pure; (case hh => (intro h1 hs; exact fixed_any h1))) | (apply CallK.pure; (case hh => (intro h1 hs; exact hCk _ (hA.grows hs.grows)))) | fail))); all_goals (try (conv => whnf)))
      all_goals exact ⟨fun h' hs => ⟨prop_true rfl, hs.grows⟩⟩
  · have hc : checkV L 131072 = 8 := by rw [checkV, if_neg (by omega), if_neg ht]
    rw [hc] at hCk
    ((repeat' ((conv => whnf); (first | (refine Ar.fit (by omega) ?_) | (refine VC.mk (by (first | omega | rfl | assumption | exact Sl.plain (by assumption) (by omega) | (and_intros <;> first | omega | rfl | assumption | (simp only [List.length_set]; omega) | (simp only [ByteArray.size_extract, ByteArray.size_append]; omega) | (simp only [List.length_cons, List.length_nil]; omega) | (simp only [Int.toNat_natCast, Int.toNat_one, List.length_take, List.length_cons, List.length_nil] at *; omega)))) ?_) | (refine Br.mk ?_ ?_ <;> intro hb <;> (try (first | (exfalso; omega) | exact absurd rfl hb | exact Bool.noConfusion hb | exact absurd (fun e => Bool.noConfusion e) hb | (exfalso; simp only [List.length_cons, List.length_nil] at hb; omega) | (exfalso; simp only [Int.toNat_natCast, Int.toNat_one, List.length_take, List.length_cons, List.length_nil] at hb; omega)))) | (refine XLoad.of (by assumption) rfl rfl (by omega) (by omega) rfl ?_) | (refine New.mk ?_; intro b hb) | (refine New2.mk ?_; intro b c hb hbc) | (refine SameR.same ?_) | (refine Two.mk ?_ ?_) | (refine ed_eql ?_) | (refine ed_neq ?_) | (refine drawn tysOk mixed (by kernel_rfl) ?_) | (apply CallK.pure; (case hh => (intro h1 hs; exact fixed_any h1))) | (apply CallK.pure; (case hh => (intro h1 hs; exact hCk _ (hA.grows hs.grows)))) | fail))); all_goals (try (conv => whnf)))
    all_goals exact ⟨fun h' hs => ⟨prop_true rfl, hs.grows⟩⟩
end Go.Ex
