/-
  Tree: the reference's Kids, Up, Over, Depth, and Ints.
-/
import Derived.Test.YtggbpdhhfgmocaaTrG
namespace Go.Ex
open Go.Proofs
set_option linter.unusedVariables false

set_option maxHeartbeats 1000000 in
set_option maxRecDepth 10000 in
theorem rup_any (A : Option Addr) (len cap : Nat) (L : List Nd) (i : Int) (h : Heap) (hA : Sl ndR h A len L) (h2 : len ≤ 2000) (hh : Has L i) :
    CallsH Try.prog 21 #[.slice A len cap, .int .i64 i] h fun v h' => v = .int .i64 (upV L i) ∧ Grows h h' := by
  refine enter (rep := rep) (m := 8) (ex := []) (cu := []) tysOk Try.func21 rfl (by decide) (rs := [.tmp 4]) rfl rfl [.val (.slice A len cap), .val (.int .i64 i)] rfl ?_
  have hL := hA.len_eq
  obtain ⟨ht, hi0, hi1⟩ := hh
  obtain ⟨E0, U0, D0, p1, p2, p3, p4⟩ := ht.root.all
  have hV : upV L i = upGo E0 i i.toNat := by
    rw [upV, if_pos ⟨ht, hi0, hi1⟩, UL_eq p1 p2, p3, mkI_get i hi0 hi1]
  obtain ⟨r, hr⟩ : ∃ r, upGo E0 i i.toNat = r := ⟨_, rfl⟩
  rw [hV, hr]
  ((repeat' ((conv => whnf); (first | (refine Ar.fit (by omega) ?_) | (refine VC.mk (by (first | omega | rfl | assumption | exact Sl.plain (by assumption) (by omega) | (and_intros <;> first | omega | rfl | assumption | (simp only [List.length_set]; omega) | (simp only [ByteArray.size_extract, ByteArray.size_append]; omega) | (simp only [List.length_cons, List.length_nil]; omega) | (simp only [Int.toNat_natCast, Int.toNat_one, List.length_take, List.length_cons, List.length_nil] at *; omega)))) ?_) | (refine Br.mk ?_ ?_ <;> intro hb <;> (try (first | (exfalso; omega) | exact absurd rfl hb | exact Bool.noConfusion hb | exact absurd (fun e => Bool.noConfusion e) hb | (exfalso; simp only [List.length_cons, List.length_nil] at hb; omega) | (exfalso; simp only [Int.toNat_natCast, Int.toNat_one, List.length_take, List.length_cons, List.length_nil] at hb; omega)))) | (refine XLoad.of (by assumption) rfl rfl (by omega) (by omega) rfl ?_) | (refine New.mk ?_; intro b hb) | (refine New2.mk ?_; intro b c hb hbc) | (refine SameR.same ?_) | (refine Two.mk ?_ ?_) | (refine ed_eql ?_) | (refine ed_neq ?_) | (refine drawn tysOk mixed (by kernel_rfl) ?_) | fail))); all_goals (try (conv => whnf)))
  refine CallK.epoch (fun h1 hq => ends_any A len cap L h1 (hA.grows hq.grows) h2) ?_
  rintro h1 u h3 hq ⟨hg, x, b, E, rfl, hX, hT, hF⟩
  obtain ⟨X, xl, xc, rfl, hE⟩ := hX.sl
  have hg0 := hq.grows.trans hg
  clear hX hq
  rcases b with _ | _
  · have := hT.2 ht.root; cases this
  have q1 := hF rfl
  have := q1.uniq p1
  subst this
  have hl := q1.len
  have hxl := hE.len_eq
  ((repeat' ((conv => whnf); (first | (refine Ar.fit (by omega) ?_) | (refine VC.mk (by (first | omega | rfl | assumption | exact Sl.plain (by assumption) (by omega) | (and_intros <;> first | omega | rfl | assumption | (simp only [List.length_set]; omega) | (simp only [ByteArray.size_extract, ByteArray.size_append]; omega) | (simp only [List.length_cons, List.length_nil]; omega) | (simp only [Int.toNat_natCast, Int.toNat_one, List.length_take, List.length_cons, List.length_nil] at *; omega)))) ?_) | (refine Br.mk ?_ ?_ <;> intro hb <;> (try (first | (exfalso; omega) | exact absurd rfl hb | exact Bool.noConfusion hb | exact absurd (fun e => Bool.noConfusion e) hb | (exfalso; simp only [List.length_cons, List.length_nil] at hb; omega) | (exfalso; simp only [Int.toNat_natCast, Int.toNat_one, List.length_take, List.length_cons, List.length_nil] at hb; omega)))) | (refine XLoad.of (by assumption) rfl rfl (by omega) (by omega) rfl ?_) | (refine New.mk ?_; intro b hb) | (refine New2.mk ?_; intro b c hb hbc) | (refine SameR.same ?_) | (refine Two.mk ?_ ?_) | (refine ed_eql ?_) | (refine ed_neq ?_) | (refine drawn tysOk mixed (by kernel_rfl) ?_) | fail))); all_goals (try (conv => whnf)))
  refine loop_rule tysOk [7] (fun x : Int => [(7, .val (.int .i64 x))]) (fun _ => []) (fun μ x => -1 ≤ x ∧ x < i ∧ μ = (x + 1).toNat ∧ upGo E i (x + 1).toNat = r) i.toNat (i - 1) ?_
  conv => whnf
  refine ⟨by ((repeat (refine ⟨rfl, ?_⟩)); trivial), trivial, ⟨by omega, by omega, by omega, by rw [show (i - 1 + 1).toNat = i.toNat by omega]; exact hr⟩, ?_⟩
  rintro μ k ⟨a0, a1, a2, a3⟩
  have z1 : getI (intR .i64).dflt E k = getI 0 E k := rfl
  by_cases hk : 0 ≤ k
  · rw [show (k + 1).toNat = k.toNat + 1 by omega] at a3
    simp only [upGo] at a3
    rw [show ((k.toNat : Nat) : Int) = k by omega] at a3
    ((repeat' ((conv => whnf); (first | (refine Ar.fit (by omega) ?_) | (refine VC.mk (by (first | omega | rfl | assumption | exact Sl.plain (by assumption) (by omega) | (and_intros <;> first | omega | rfl | assumption | (simp only [List.length_set]; omega) | (simp only [ByteArray.size_extract, ByteArray.size_append]; omega) | (simp only [List.length_cons, List.length_nil]; omega) | (simp only [Int.toNat_natCast, Int.toNat_one, List.length_take, List.length_cons, List.length_nil] at *; omega)))) ?_) | (refine Br.mk ?_ ?_ <;> intro hb <;> (try (first | (exfalso; omega) | exact absurd rfl hb | exact Bool.noConfusion hb | exact absurd (fun e => Bool.noConfusion e) hb | (exfalso; simp only [List.length_cons, List.length_nil] at hb; omega) | (exfalso; simp only [Int.toNat_natCast, Int.toNat_one, List.length_take, List.length_cons, List.length_nil] at hb; omega)))) | (refine XLoad.of (by assumption) rfl rfl (by omega) (by omega) rfl ?_) | (refine New.mk ?_; intro b hb) | (refine New2.mk ?_; intro b c hb hbc) | (refine SameR.same ?_) | (refine Two.mk ?_ ?_) | (refine ed_eql ?_) | (refine ed_neq ?_) | (refine drawn tysOk mixed (by kernel_rfl) ?_) | fail))); all_goals (try (conv => whnf)))
    · rw [if_pos (by omega)] at a3
      exact ⟨fun h' hs => ⟨int_eq a3, hg0.trans hs.grows⟩⟩
    · rw [if_neg (by omega)] at a3
      refine ⟨μ - 1, k - 1, ⟨by omega, by omega, by omega, by rw [show k - 1 + 1 = k by omega]; exact a3⟩, by omega, by ((repeat (refine ⟨rfl, ?_⟩)); trivial), rfl, rfl, trivial⟩
  · rw [show (k + 1).toNat = 0 by omega] at a3
    ((repeat' ((conv => whnf); (first | (refine Ar.fit (by omega) ?_) | (refine VC.mk (by (first | omega | rfl | assumption | exact Sl.plain (by assumption) (by omega) | (and_intros <;> first | omega | rfl | assumption | (simp only [List.length_set]; omega) | (simp only [ByteArray.size_extract, ByteArray.size_append]; omega) | (simp only [List.length_cons, List.length_nil]; omega) | (simp only [Int.toNat_natCast, Int.toNat_one, List.length_take, List.length_cons, List.length_nil] at *; omega)))) ?_) | (refine Br.mk ?_ ?_ <;> intro hb <;> (try (first | (exfalso; omega) | exact absurd rfl hb | exact Bool.noConfusion hb | exact absurd (fun e => Bool.noConfusion e) hb | (exfalso; simp only [List.length_cons, List.length_nil] at hb; omega) | (exfalso; simp only [Int.toNat_natCast, Int.toNat_one, List.length_take, List.length_cons, List.length_nil] at hb; omega)))) | (refine XLoad.of (by assumption) rfl rfl (by omega) (by omega) rfl ?_) | (refine New.mk ?_; intro b hb) | (refine New2.mk ?_; intro b c hb hbc) | (refine SameR.same ?_) | (refine Two.mk ?_ ?_) | (refine ed_eql ?_) | (refine ed_neq ?_) | (refine drawn tysOk mixed (by kernel_rfl) ?_) | fail))); all_goals (try (conv => whnf)))
    exact ⟨fun h' hs => ⟨int_eq a3, hg0.trans hs.grows⟩⟩
theorem over_up (L : List Nd) (t : Int) : ∀ n : Nat, overGo L t (n + 1) = if (nd L n).f ≤ t ∧ t < (nd L n).t then (n : Int) else overGo L t n := fun n => rfl
set_option maxHeartbeats 1000000 in
set_option maxRecDepth 10000 in
theorem rover_any (A : Option Addr) (len cap : Nat) (L : List Nd) (t : Int) (h : Heap) (hA : Sl ndR h A len L) :
    CallsH Try.prog 18 #[.slice A len cap, .int .i64 t] h fun v h' => v = .int .i64 (overGo L t L.length) ∧ Grows h h' := by
  refine enter (rep := rep) (m := 7) (ex := []) (cu := []) tysOk Try.func18 rfl (by decide) (rs := [.tmp 4]) rfl rfl [.val (.slice A len cap), .val (.int .i64 t)] rfl ?_
  have hL := hA.len_eq
  have hsm := hA.small
  ((repeat' ((conv => whnf); (first | (refine Ar.fit (by omega) ?_) | (refine VC.mk (by (first | omega | rfl | assumption | exact Sl.plain (by assumption) (by omega) | (and_intros <;> first | omega | rfl | assumption | (simp only [List.length_set]; omega) | (simp only [ByteArray.size_extract, ByteArray.size_append]; omega) | (simp only [List.length_cons, List.length_nil]; omega) | (simp only [Int.toNat_natCast, Int.toNat_one, List.length_take, List.length_cons, List.length_nil] at *; omega)))) ?_) | (refine Br.mk ?_ ?_ <;> intro hb <;> (try (first | (exfalso; omega) | exact absurd rfl hb | exact Bool.noConfusion hb | exact absurd (fun e => Bool.noConfusion e) hb | (exfalso; simp only [List.length_cons, List.length_nil] at hb; omega) | (exfalso; simp only [Int.toNat_natCast, Int.toNat_one, List.length_take, List.length_cons, List.length_nil] at hb; omega)))) | (refine XLoad.of (by assumption) rfl rfl (by omega) (by omega) rfl ?_) | (refine New.mk ?_; intro b hb) | (refine New2.mk ?_; intro b c hb hbc) | (refine SameR.same ?_) | (refine Two.mk ?_ ?_) | (refine ed_eql ?_) | (refine ed_neq ?_) | (refine drawn tysOk mixed (by kernel_rfl) ?_) | fail))); all_goals (try (conv => whnf)))
  refine loop_rule tysOk [5, 6] (fun x : Int × Int => [(5, .val (.int .i64 x.1)), (6, .val (.int .i64 x.2))]) (fun _ => []) (fun μ x => 0 ≤ x.2 ∧ x.2 ≤ len ∧ μ = (len - x.2).toNat ∧ x.1 = overGo L t x.2.toNat) len (-1, 0) ?_
  conv => whnf
  refine ⟨by ((repeat (refine ⟨rfl, ?_⟩)); trivial), trivial, ⟨by simp, by simp, by simp, by simp [overGo]⟩, ?_⟩
  rintro μ ⟨r, k⟩ ⟨a0, a1, a2, a3⟩
  dsimp only at a0 a1 a2 a3 ⊢
  by_cases hk : k < len
  · have hs := over_up L t k.toNat
    rw [show ((k.toNat : Nat) : Int) = k by omega, ← a3] at hs
    simp only [nd] at hs
    ((repeat' ((conv => whnf); (first | (refine Ar.fit (by omega) ?_) | (refine VC.mk (by (first | omega | rfl | assumption | exact Sl.plain (by assumption) (by omega) | (and_intros <;> first | omega | rfl | assumption | (simp only [List.length_set]; omega) | (simp only [ByteArray.size_extract, ByteArray.size_append]; omega) | (simp only [List.length_cons, List.length_nil]; omega) | (simp only [Int.toNat_natCast, Int.toNat_one, List.length_take, List.length_cons, List.length_nil] at *; omega)))) ?_) | (refine Br.mk ?_ ?_ <;> intro hb <;> (try (first | (exfalso; omega) | exact absurd rfl hb | exact Bool.noConfusion hb | exact absurd (fun e => Bool.noConfusion e) hb | (exfalso; simp only [List.length_cons, List.length_nil] at hb; omega) | (exfalso; simp only [Int.toNat_natCast, Int.toNat_one, List.length_take, List.length_cons, List.length_nil] at hb; omega)))) | (refine XLoad.of (by assumption) rfl rfl (by omega) (by omega) rfl ?_) | (refine New.mk ?_; intro b hb) | (refine New2.mk ?_; intro b c hb hbc) | (refine SameR.same ?_) | (refine Two.mk ?_ ?_) | (refine ed_eql ?_) | (refine ed_neq ?_) | (refine drawn tysOk mixed (by kernel_rfl) ?_) | fail))); all_goals (try (conv => whnf)))
    · rw [if_pos (by omega)] at hs
      refine ⟨μ - 1, ⟨k, k + 1⟩, ⟨by dsimp only; omega, by dsimp only; omega, by dsimp only; omega, by dsimp only; rw [show (k + 1).toNat = k.toNat + 1 by omega]; exact hs.symm⟩, by omega, by ((repeat (refine ⟨rfl, ?_⟩)); trivial), rfl, rfl, trivial⟩
    all_goals
      rw [if_neg (by omega)] at hs
      refine ⟨μ - 1, ⟨r, k + 1⟩, ⟨by dsimp only; omega, by dsimp only; omega, by dsimp only; omega, by dsimp only; rw [show (k + 1).toNat = k.toNat + 1 by omega]; exact hs.symm⟩, by omega, by ((repeat (refine ⟨rfl, ?_⟩)); trivial), rfl, rfl, trivial⟩
  · have e : overGo L t L.length = r := by rw [a3]; congr 1; omega
    rw [e]
    ((repeat' ((conv => whnf); (first | (refine Ar.fit (by omega) ?_) | (refine VC.mk (by (first | omega | rfl | assumption | exact Sl.plain (by assumption) (by omega) | (and_intros <;> first | omega | rfl | assumption | (simp only [List.length_set]; omega) | (simp only [ByteArray.size_extract, ByteArray.size_append]; omega) | (simp only [List.length_cons, List.length_nil]; omega) | (simp only [Int.toNat_natCast, Int.toNat_one, List.length_take, List.length_cons, List.length_nil] at *; omega)))) ?_) | (refine Br.mk ?_ ?_ <;> intro hb <;> (try (first | (exfalso; omega) | exact absurd rfl hb | exact Bool.noConfusion hb | exact absurd (fun e => Bool.noConfusion e) hb | (exfalso; simp only [List.length_cons, List.length_nil] at hb; omega) | (exfalso; simp only [Int.toNat_natCast, Int.toNat_one, List.length_take, List.length_cons, List.length_nil] at hb; omega)))) | (refine XLoad.of (by assumption) rfl rfl (by omega) (by omega) rfl ?_) | (refine New.mk ?_; intro b hb) | (refine New2.mk ?_; intro b c hb hbc) | (refine SameR.same ?_) | (refine Two.mk ?_ ?_) | (refine ed_eql ?_) | (refine ed_neq ?_) | (refine drawn tysOk mixed (by kernel_rfl) ?_) | fail))); all_goals (try (conv => whnf)))
    exact ⟨fun h' hs => ⟨rfl, hs.grows⟩⟩
set_option maxHeartbeats 1000000 in
set_option maxRecDepth 10000 in
theorem rdepth_any (A : Option Addr) (len cap : Nat) (L : List Nd) (h : Heap) (hA : Sl ndR h A len L) (h2 : len ≤ 2000) (ht : TreeP L mostT) :
    CallsH Try.prog 19 #[.slice A len cap] h fun v h' => v = .int .i64 (depthV L) ∧ Grows h h' := by
  refine enter (rep := rep) (m := 7) (ex := []) (cu := []) tysOk Try.func19 rfl (by decide) (rs := [.tmp 2]) rfl rfl [.val (.slice A len cap)] rfl ?_
  have hL := hA.len_eq
  obtain ⟨E, U, D, p1, p2, p3, p4⟩ := ht.root.all
  have hV : depthV L = maxGo D L.length := by rw [depthV, if_pos ht, DL_eq p1 p2 p4]
  rw [hV]
  have hU : ∀ i : Int, 0 ≤ i → i < L.length → upV L i = getI 0 U i := fun i h0 h1 => by rw [upV, if_pos ⟨ht, h0, h1⟩, UL_eq p1 p2]
  ((repeat' ((conv => whnf); (first | (refine Ar.fit (by omega) ?_) | (refine VC.mk (by (first | omega | rfl | assumption | exact Sl.plain (by assumption) (by omega) | (and_intros <;> first | omega | rfl | assumption | (simp only [List.length_set]; omega) | (simp only [ByteArray.size_extract, ByteArray.size_append]; omega) | (simp only [List.length_cons, List.length_nil]; omega) | (simp only [Int.toNat_natCast, Int.toNat_one, List.length_take, List.length_cons, List.length_nil] at *; omega)))) ?_) | (refine Br.mk ?_ ?_ <;> intro hb <;> (try (first | (exfalso; omega) | exact absurd rfl hb | exact Bool.noConfusion hb | exact absurd (fun e => Bool.noConfusion e) hb | (exfalso; simp only [List.length_cons, List.length_nil] at hb; omega) | (exfalso; simp only [Int.toNat_natCast, Int.toNat_one, List.length_take, List.length_cons, List.length_nil] at hb; omega)))) | (refine XLoad.of (by assumption) rfl rfl (by omega) (by omega) rfl ?_) | (refine New.mk ?_; intro b hb) | (refine New2.mk ?_; intro b c hb hbc) | (refine SameR.same ?_) | (refine Two.mk ?_ ?_) | (refine ed_eql ?_) | (refine ed_neq ?_) | (refine drawn tysOk mixed (by kernel_rfl) ?_) | fail))); all_goals (try (conv => whnf)))
  refine loop_rule tysOk [3, 4] (fun x : Int × Int => [(3, .val (.int .i64 x.1)), (4, .val (.int .i64 x.2))]) (fun _ => []) (fun μ x => 0 ≤ x.2 ∧ x.2 ≤ len ∧ μ = (len - x.2).toNat ∧ x.1 = maxGo D x.2.toNat) len (0, 0) ?_
  conv => whnf
  refine ⟨by ((repeat (refine ⟨rfl, ?_⟩)); trivial), trivial, ⟨by simp, by simp, by simp, by simp [maxGo]⟩, ?_⟩
  rintro μ ⟨r, i⟩ ⟨a0, a1, a2, a3⟩
  dsimp only at a0 a1 a2 a3 ⊢
  by_cases hi : i < len
  · have hRu := fun h hA => rup_any A len cap L i h hA h2 ⟨ht, a0, by omega⟩
    rw [hU i a0 (by omega)] at hRu
    have hle := p4.le i a0 (by omega)
    ((repeat' ((conv => whnf); (first | (refine Ar.fit (by omega) ?_) | (refine VC.mk (by (first | omega | rfl | assumption | exact Sl.plain (by assumption) (by omega) | (and_intros <;> first | omega | rfl | assumption | (simp only [List.length_set]; omega) | (simp only [ByteArray.size_extract, ByteArray.size_append]; omega) | (simp only [List.length_cons, List.length_nil]; omega) | (simp only [Int.toNat_natCast, Int.toNat_one, List.length_take, List.length_cons, List.length_nil] at *; omega)))) ?_) | (refine Br.mk ?_ ?_ <;> intro hb <;> (try (first | (exfalso; omega) | exact absurd rfl hb | exact Bool.noConfusion hb | exact absurd (fun e => Bool.noConfusion e) hb | (exfalso; simp only [List.length_cons, List.length_nil] at hb; omega) | (exfalso; simp only [Int.toNat_natCast, Int.toNat_one, List.length_take, List.length_cons, List.length_nil] at hb; omega)))) | (refine XLoad.of (by assumption) rfl rfl (by omega) (by omega) rfl ?_) | (refine New.mk ?_; intro b hb) | (refine New2.mk ?_; intro b c hb hbc) | (refine SameR.same ?_) | (refine Two.mk ?_ ?_) | (refine ed_eql ?_) | (refine ed_neq ?_) | (refine drawn tysOk mixed (by kernel_rfl) ?_) | (apply CallK.pure; (case hh => (intro h1 hs; exact hRu _ (hA.grows hs.grows)))) | fail))); all_goals (try (conv => whnf)))
    refine loop_rule tysOk [5, 6] (fun x : Int × Int => [(5, .val (.int .i64 x.1)), (6, .val (.int .i64 x.2))]) (fun _ => []) (fun μ x => 1 ≤ x.1 ∧ x.2 < len ∧ -1 ≤ x.2 ∧ μ = (x.2 + 1).toNat ∧ (if x.2 < 0 then x.1 = D i else x.1 + D x.2 = D i)) (getI 0 U i + 1).toNat (1, getI 0 U i) ?_
    conv => whnf
    have step : ∀ j : Int, 0 ≤ j → j < len → -1 ≤ getI 0 U j ∧ getI 0 U j < j ∧ (if getI 0 U j < 0 then 1 = D j else 1 + D (getI 0 U j) = D j) := by
      intro j h0 h1
      rcases p4.up j h0 (by omega) with ⟨g1, g2⟩ | ⟨g1, g2⟩ <;> rcases p2.at_ j h0 (by omega) with ⟨g3, g4⟩ | ⟨g3, g4, g5, _⟩
      · rw [if_pos (by omega)]; omega
      · omega
      · omega
      · rw [if_neg (by omega)]; omega
    refine ⟨by ((repeat (refine ⟨rfl, ?_⟩)); trivial), trivial, ⟨by simp, by have := step i a0 hi; dsimp only; omega, (step i a0 hi).1, rfl, (step i a0 hi).2.2⟩, ?_⟩
    rintro ν ⟨d, k⟩ ⟨b0, b1, b2, b3, b4⟩
    dsimp only at b0 b1 b2 b3 b4 ⊢
    by_cases hk : 0 ≤ k
    · rw [if_neg (by omega)] at b4
      have hRk := fun h hA => rup_any A len cap L k h hA h2 ⟨ht, hk, by omega⟩
      rw [hU k hk (by omega)] at hRk
      have hst := step k hk b1
      have hle2 := p4.le k hk (by omega)
      ((repeat' ((conv => whnf); (first | (refine Ar.fit (by omega) ?_) | (refine VC.mk (by (first | omega | rfl | assumption | exact Sl.plain (by assumption) (by omega) | (and_intros <;> first | omega | rfl | assumption | (simp only [List.length_set]; omega) | (simp only [ByteArray.size_extract, ByteArray.size_append]; omega) | (simp only [List.length_cons, List.length_nil]; omega) | (simp only [Int.toNat_natCast, Int.toNat_one, List.length_take, List.length_cons, List.length_nil] at *; omega)))) ?_) | (refine Br.mk ?_ ?_ <;> intro hb <;> (try (first | (exfalso; omega) | exact absurd rfl hb | exact Bool.noConfusion hb | exact absurd (fun e => Bool.noConfusion e) hb | (exfalso; simp only [List.length_cons, List.length_nil] at hb; omega) | (exfalso; simp only [Int.toNat_natCast, Int.toNat_one, List.length_take, List.length_cons, List.length_nil] at hb; omega)))) | (refine XLoad.of (by assumption) rfl rfl (by omega) (by omega) rfl ?_) | (refine New.mk ?_; intro b hb) | (refine New2.mk ?_; intro b c hb hbc) | (refine SameR.same ?_) | (refine Two.mk ?_ ?_) | (refine ed_eql ?_) | (refine ed_neq ?_) | (refine drawn tysOk mixed (by kernel_rfl) ?_) | (apply CallK.pure; (case hh => (intro h1 hs; exact hRk _ (hA.grows hs.grows)))) | fail))); all_goals (try (conv => whnf)))
      refine ⟨(getI 0 U k + 1).toNat, ⟨d + 1, getI 0 U k⟩, ⟨by dsimp only; omega, by dsimp only; omega, by dsimp only; omega, rfl, ?_⟩, by omega, by ((repeat (refine ⟨rfl, ?_⟩)); trivial), rfl, rfl, trivial⟩
      dsimp only
      by_cases hq : getI 0 U k < 0
      · rw [if_pos hq] at hst ⊢; omega
      · rw [if_neg hq] at hst ⊢; omega
    · rw [if_pos (by omega)] at b4
      ((repeat' ((conv => whnf); (first | (refine Ar.fit (by omega) ?_) | (refine VC.mk (by (first | omega | rfl | assumption | exact Sl.plain (by assumption) (by omega) | (and_intros <;> first | omega | rfl | assumption | (simp only [List.length_set]; omega) | (simp only [ByteArray.size_extract, ByteArray.size_append]; omega) | (simp only [List.length_cons, List.length_nil]; omega) | (simp only [Int.toNat_natCast, Int.toNat_one, List.length_take, List.length_cons, List.length_nil] at *; omega)))) ?_) | (refine Br.mk ?_ ?_ <;> intro hb <;> (try (first | (exfalso; omega) | exact absurd rfl hb | exact Bool.noConfusion hb | exact absurd (fun e => Bool.noConfusion e) hb | (exfalso; simp only [List.length_cons, List.length_nil] at hb; omega) | (exfalso; simp only [Int.toNat_natCast, Int.toNat_one, List.length_take, List.length_cons, List.length_nil] at hb; omega)))) | (refine XLoad.of (by assumption) rfl rfl (by omega) (by omega) rfl ?_) | (refine New.mk ?_; intro b hb) | (refine New2.mk ?_; intro b c hb hbc) | (refine SameR.same ?_) | (refine Two.mk ?_ ?_) | (refine ed_eql ?_) | (refine ed_neq ?_) | (refine drawn tysOk mixed (by kernel_rfl) ?_) | fail))); all_goals (try (conv => whnf)))
      refine ⟨μ - 1, ⟨max r d, i + 1⟩, ⟨by dsimp only; omega, by dsimp only; omega, by dsimp only; omega, ?_⟩, by omega, by ((repeat (refine ⟨rfl, ?_⟩)); trivial), rfl, rfl, trivial⟩
      dsimp only
      rw [show (i + 1).toNat = i.toNat + 1 by omega]
      simp only [maxGo]
      rw [show ((i.toNat : Nat) : Int) = i by omega, ← a3, b4]
  · have e : maxGo D L.length = r := by rw [a3]; congr 1; omega
    rw [e]
    ((repeat' ((conv => whnf); (first | (refine Ar.fit (by omega) ?_) | (refine VC.mk (by (first | omega | rfl | assumption | exact Sl.plain (by assumption) (by omega) | (and_intros <;> first | omega | rfl | assumption | (simp only [List.length_set]; omega) | (simp only [ByteArray.size_extract, ByteArray.size_append]; omega) | (simp only [List.length_cons, List.length_nil]; omega) | (simp only [Int.toNat_natCast, Int.toNat_one, List.length_take, List.length_cons, List.length_nil] at *; omega)))) ?_) | (refine Br.mk ?_ ?_ <;> intro hb <;> (try (first | (exfalso; omega) | exact absurd rfl hb | exact Bool.noConfusion hb | exact absurd (fun e => Bool.noConfusion e) hb | (exfalso; simp only [List.length_cons, List.length_nil] at hb; omega) | (exfalso; simp only [Int.toNat_natCast, Int.toNat_one, List.length_take, List.length_cons, List.length_nil] at hb; omega)))) | (refine XLoad.of (by assumption) rfl rfl (by omega) (by omega) rfl ?_) | (refine New.mk ?_; intro b hb) | (refine New2.mk ?_; intro b c hb hbc) | (refine SameR.same ?_) | (refine Two.mk ?_ ?_) | (refine ed_eql ?_) | (refine ed_neq ?_) | (refine drawn tysOk mixed (by kernel_rfl) ?_) | fail))); all_goals (try (conv => whnf)))
    exact ⟨fun h' hs => ⟨rfl, hs.grows⟩⟩
set_option maxHeartbeats 1000000 in
set_option maxRecDepth 10000 in
theorem ints_any (A B : Option Addr) (al ac bl bc : Nat) (X Y : List Int) (h : Heap) (hA : Sl (intR .i64) h A al X) (hB : Sl (intR .i64) h B bl Y) :
    CallsH Try.prog 22 #[.slice A al ac, .slice B bl bc] h fun v h' => v = denC (.prop (X = Y)) ∧ Grows h h' := by
  refine enter (rep := rep) (m := 6) (ex := []) (cu := []) tysOk Try.func22 rfl (by decide) (rs := [.tmp 4]) rfl rfl [.val (.slice A al ac), .val (.slice B bl bc)] rfl ?_
  have hX := hA.len_eq
  have hY := hB.len_eq
  have hs1 := hA.small
  by_cases hl : al = bl
  · subst hl
    ((repeat' ((conv => whnf); (first | (refine Ar.fit (by omega) ?_) | (refine VC.mk (by (first | omega | rfl | assumption | exact Sl.plain (by assumption) (by omega) | (and_intros <;> first | omega | rfl | assumption | (simp only [List.length_set]; omega) | (simp only [ByteArray.size_extract, ByteArray.size_append]; omega) | (simp only [List.length_cons, List.length_nil]; omega) | (simp only [Int.toNat_natCast, Int.toNat_one, List.length_take, List.length_cons, List.length_nil] at *; omega)))) ?_) | (refine Br.mk ?_ ?_ <;> intro hb <;> (try (first | (exfalso; omega) | exact absurd rfl hb | exact Bool.noConfusion hb | exact absurd (fun e => Bool.noConfusion e) hb | (exfalso; simp only [List.length_cons, List.length_nil] at hb; omega) | (exfalso; simp only [Int.toNat_natCast, Int.toNat_one, List.length_take, List.length_cons, List.length_nil] at hb; omega)))) | (refine XLoad.of (by assumption) rfl rfl (by omega) (by omega) rfl ?_) | (refine New.mk ?_; intro b hb) | (refine New2.mk ?_; intro b c hb hbc) | (refine SameR.same ?_) | (refine Two.mk ?_ ?_) | (refine ed_eql ?_) | (refine ed_neq ?_) | (refine drawn tysOk mixed (by kernel_rfl) ?_) | fail))); all_goals (try (conv => whnf)))
    refine loop_rule tysOk [5] (fun x : Int => [(5, .val (.int .i64 x))]) (fun _ => []) (fun μ x => 0 ≤ x ∧ x ≤ al ∧ μ = (al - x).toNat ∧ ∀ j : Int, 0 ≤ j → j < x → getI 0 X j = getI 0 Y j) al 0 ?_
    conv => whnf
    refine ⟨by ((repeat (refine ⟨rfl, ?_⟩)); trivial), trivial, ⟨by simp, by simp, by simp, fun j h1 h2 => by omega⟩, ?_⟩
    rintro μ i ⟨a0, a1, a2, a3⟩
    have z1 : getI (intR .i64).dflt X i = getI 0 X i := rfl
    have z2 : getI (intR .i64).dflt Y i = getI 0 Y i := rfl
    by_cases hi : i < al
    · ((repeat' ((conv => whnf); (first | (refine Ar.fit (by omega) ?_) | (refine VC.mk (by (first | omega | rfl | assumption | exact Sl.plain (by assumption) (by omega) | (and_intros <;> first | omega | rfl | assumption | (simp only [List.length_set]; omega) | (simp only [ByteArray.size_extract, ByteArray.size_append]; omega) | (simp only [List.length_cons, List.length_nil]; omega) | (simp only [Int.toNat_natCast, Int.toNat_one, List.length_take, List.length_cons, List.length_nil] at *; omega)))) ?_) | (refine Br.mk ?_ ?_ <;> intro hb <;> (try (first | (exfalso; omega) | exact absurd rfl hb | exact Bool.noConfusion hb | exact absurd (fun e => Bool.noConfusion e) hb | (exfalso; simp only [List.length_cons, List.length_nil] at hb; omega) | (exfalso; simp only [Int.toNat_natCast, Int.toNat_one, List.length_take, List.length_cons, List.length_nil] at hb; omega)))) | (refine XLoad.of (by assumption) rfl rfl (by omega) (by omega) rfl ?_) | (refine New.mk ?_; intro b hb) | (refine New2.mk ?_; intro b c hb hbc) | (refine SameR.same ?_) | (refine Two.mk ?_ ?_) | (refine ed_eql ?_) | (refine ed_neq ?_) | (refine drawn tysOk mixed (by kernel_rfl) ?_) | fail))); all_goals (try (conv => whnf)))
      · have hne : ¬ X = Y := fun e => by subst e; omega
        exact ⟨fun h' hs => ⟨bool_no hne, hs.grows⟩⟩
      · refine ⟨μ - 1, i + 1, ⟨by omega, by omega, by omega, fun j h1 h2 => ?_⟩, by omega, by ((repeat (refine ⟨rfl, ?_⟩)); trivial), rfl, rfl, trivial⟩
        by_cases hj : j = i
        · subst hj; omega
        · exact a3 j h1 (by omega)
    · have he : X = Y := getI_ext (by omega) fun j h1 h2 => a3 j h1 (by omega)
      ((repeat' ((conv => whnf); (first | (refine Ar.fit (by omega) ?_) | (refine VC.mk (by (first | omega | rfl | assumption | exact Sl.plain (by assumption) (by omega) | (and_intros <;> first | omega | rfl | assumption | (simp only [List.length_set]; omega) | (simp only [ByteArray.size_extract, ByteArray.size_append]; omega) | (simp only [List.length_cons, List.length_nil]; omega) | (simp only [Int.toNat_natCast, Int.toNat_one, List.length_take, List.length_cons, List.length_nil] at *; omega)))) ?_) | (refine Br.mk ?_ ?_ <;> intro hb <;> (try (first | (exfalso; omega) | exact absurd rfl hb | exact Bool.noConfusion hb | exact absurd (fun e => Bool.noConfusion e) hb | (exfalso; simp only [List.length_cons, List.length_nil] at hb; omega) | (exfalso; simp only [Int.toNat_natCast, Int.toNat_one, List.length_take, List.length_cons, List.length_nil] at hb; omega)))) | (refine XLoad.of (by assumption) rfl rfl (by omega) (by omega) rfl ?_) | (refine New.mk ?_; intro b hb) | (refine New2.mk ?_; intro b c hb hbc) | (refine SameR.same ?_) | (refine Two.mk ?_ ?_) | (refine ed_eql ?_) | (refine ed_neq ?_) | (refine drawn tysOk mixed (by kernel_rfl) ?_) | fail))); all_goals (try (conv => whnf)))
      exact ⟨fun h' hs => ⟨bool_yes he, hs.grows⟩⟩
  · have hne : ¬ X = Y := fun e => by subst e; omega
    ((repeat' ((conv => whnf); (first | (refine Ar.fit (by omega) ?_) | (refine VC.mk (by (first | omega | rfl | assumption | exact Sl.plain (by assumption) (by omega) | (and_intros <;> first | omega | rfl | assumption | (simp only [List.length_set]; omega) | (simp only [ByteArray.size_extract, ByteArray.size_append]; omega) | (simp only [List.length_cons, List.length_nil]; omega) | (simp only [Int.toNat_natCast, Int.toNat_one, List.length_take, List.length_cons, List.length_nil] at *; omega)))) ?_) | (refine Br.mk ?_ ?_ <;> intro hb <;> (try (first | (exfalso; omega) | exact absurd rfl hb | exact Bool.noConfusion hb | exact absurd (fun e => Bool.noConfusion e) hb | (exfalso; simp only [List.length_cons, List.length_nil] at hb; omega) | (exfalso; simp only [Int.toNat_natCast, Int.toNat_one, List.length_take, List.length_cons, List.length_nil] at hb; omega)))) | (refine XLoad.of (by assumption) rfl rfl (by omega) (by omega) rfl ?_) | (refine New.mk ?_; intro b hb) | (refine New2.mk ?_; intro b c hb hbc) | (refine SameR.same ?_) | (refine Two.mk ?_ ?_) | (refine ed_eql ?_) | (refine ed_neq ?_) | (refine drawn tysOk mixed (by kernel_rfl) ?_) | fail))); all_goals (try (conv => whnf)))
    exact ⟨fun h' hs => ⟨bool_no hne, hs.grows⟩⟩
set_option maxHeartbeats 1000000 in
set_option maxRecDepth 10000 in
theorem wide_any (A : Option Addr) (len cap : Nat) (L : List Nd) (h : Heap) (hA : Sl ndR h A len L) :
    CallsH Try.prog 12 #[.slice A len cap] h fun v h' => (∃ b, v = .bool b ∧ (b = false → len ≤ 200)) ∧ Grows h h' := by
  refine enter (rep := rep) (m := 4) (ex := []) (cu := []) tysOk Try.func12 rfl (by decide) (rs := [.tmp 2]) rfl rfl [.val (.slice A len cap)] rfl ?_
  have hX := hA.len_eq
  have hs1 := hA.small
  ((repeat' ((conv => whnf); (first | (refine Ar.fit (by omega) ?_) | (refine VC.mk (by (first | omega | rfl | assumption | exact Sl.plain (by assumption) (by omega) | (and_intros <;> first | omega | rfl | assumption | (simp only [List.length_set]; omega) | (simp only [ByteArray.size_extract, ByteArray.size_append]; omega) | (simp only [List.length_cons, List.length_nil]; omega) | (simp only [Int.toNat_natCast, Int.toNat_one, List.length_take, List.length_cons, List.length_nil] at *; omega)))) ?_) | (refine Br.mk ?_ ?_ <;> intro hb <;> (try (first | (exfalso; omega) | exact absurd rfl hb | exact Bool.noConfusion hb | exact absurd (fun e => Bool.noConfusion e) hb | (exfalso; simp only [List.length_cons, List.length_nil] at hb; omega) | (exfalso; simp only [Int.toNat_natCast, Int.toNat_one, List.length_take, List.length_cons, List.length_nil] at hb; omega)))) | (refine XLoad.of (by assumption) rfl rfl (by omega) (by omega) rfl ?_) | (refine New.mk ?_; intro b hb) | (refine New2.mk ?_; intro b c hb hbc) | (refine SameR.same ?_) | (refine Two.mk ?_ ?_) | (refine ed_eql ?_) | (refine ed_neq ?_) | (refine drawn tysOk mixed (by kernel_rfl) ?_) | fail))); all_goals (try (conv => whnf)))
  refine loop_rule tysOk [3] (fun x : Int => [(3, .val (.int .i64 x))]) (fun _ => []) (fun μ x => 0 ≤ x ∧ x ≤ len ∧ μ = (len - x).toNat) len 0 ?_
  conv => whnf
  refine ⟨by ((repeat (refine ⟨rfl, ?_⟩)); trivial), trivial, ⟨by simp, by simp, by simp⟩, ?_⟩
  rintro μ i ⟨a0, a1, a2⟩
  by_cases hi : i < len
  · ((repeat' ((conv => whnf); (first | (refine Ar.fit (by omega) ?_) | (refine VC.mk (by (first | omega | rfl | assumption | exact Sl.plain (by assumption) (by omega) | (and_intros <;> first | omega | rfl | assumption | (simp only [List.length_set]; omega) | (simp only [ByteArray.size_extract, ByteArray.size_append]; omega) | (simp only [List.length_cons, List.length_nil]; omega) | (simp only [Int.toNat_natCast, Int.toNat_one, List.length_take, List.length_cons, List.length_nil] at *; omega)))) ?_) | (refine Br.mk ?_ ?_ <;> intro hb <;> (try (first | (exfalso; omega) | exact absurd rfl hb | exact Bool.noConfusion hb | exact absurd (fun e => Bool.noConfusion e) hb | (exfalso; simp only [List.length_cons, List.length_nil] at hb; omega) | (exfalso; simp only [Int.toNat_natCast, Int.toNat_one, List.length_take, List.length_cons, List.length_nil] at hb; omega)))) | (refine XLoad.of (by assumption) rfl rfl (by omega) (by omega) rfl ?_) | (refine New.mk ?_; intro b hb) | (refine New2.mk ?_; intro b c hb hbc) | (refine SameR.same ?_) | (refine Two.mk ?_ ?_) | (refine ed_eql ?_) | (refine ed_neq ?_) | (refine drawn tysOk mixed (by kernel_rfl) ?_) | fail))); all_goals (try (conv => whnf)))
    · by_cases hf : -9223372036854775808 ≤ (getI ndR.dflt L i).t - (getI ndR.dflt L i).f
      · refine Ar.fit ⟨hf, by omega⟩ ?_
        ((repeat' ((conv => whnf); (first | (refine Ar.fit (by omega) ?_) | (refine VC.mk (by (first | omega | rfl | assumption | exact Sl.plain (by assumption) (by omega) | (and_intros <;> first | omega | rfl | assumption | (simp only [List.length_set]; omega) | (simp only [ByteArray.size_extract, ByteArray.size_append]; omega) | (simp only [List.length_cons, List.length_nil]; omega) | (simp only [Int.toNat_natCast, Int.toNat_one, List.length_take, List.length_cons, List.length_nil] at *; omega)))) ?_) | (refine Br.mk ?_ ?_ <;> intro hb <;> (try (first | (exfalso; omega) | exact absurd rfl hb | exact Bool.noConfusion hb | exact absurd (fun e => Bool.noConfusion e) hb | (exfalso; simp only [List.length_cons, List.length_nil] at hb; omega) | (exfalso; simp only [Int.toNat_natCast, Int.toNat_one, List.length_take, List.length_cons, List.length_nil] at hb; omega)))) | (refine XLoad.of (by assumption) rfl rfl (by omega) (by omega) rfl ?_) | (refine New.mk ?_; intro b hb) | (refine New2.mk ?_; intro b c hb hbc) | (refine SameR.same ?_) | (refine Two.mk ?_ ?_) | (refine ed_eql ?_) | (refine ed_neq ?_) | (refine drawn tysOk mixed (by kernel_rfl) ?_) | fail))); all_goals (try (conv => whnf)))
        · exact ⟨fun h' hs => ⟨⟨true, rfl, fun e => (by cases e)⟩, hs.grows⟩⟩
        · refine ⟨μ - 1, i + 1, ⟨by omega, by omega, by omega⟩, by omega, by ((repeat (refine ⟨rfl, ?_⟩)); trivial), rfl, rfl, trivial⟩
      · refine Ar.wrap ?_
        ((repeat' ((conv => whnf); (first | (refine Ar.fit (by omega) ?_) | (refine VC.mk (by (first | omega | rfl | assumption | exact Sl.plain (by assumption) (by omega) | (and_intros <;> first | omega | rfl | assumption | (simp only [List.length_set]; omega) | (simp only [ByteArray.size_extract, ByteArray.size_append]; omega) | (simp only [List.length_cons, List.length_nil]; omega) | (simp only [Int.toNat_natCast, Int.toNat_one, List.length_take, List.length_cons, List.length_nil] at *; omega)))) ?_) | (refine Br.mk ?_ ?_ <;> intro hb <;> (try (first | (exfalso; omega) | exact absurd rfl hb | exact Bool.noConfusion hb | exact absurd (fun e => Bool.noConfusion e) hb | (exfalso; simp only [List.length_cons, List.length_nil] at hb; omega) | (exfalso; simp only [Int.toNat_natCast, Int.toNat_one, List.length_take, List.length_cons, List.length_nil] at hb; omega)))) | (refine XLoad.of (by assumption) rfl rfl (by omega) (by omega) rfl ?_) | (refine New.mk ?_; intro b hb) | (refine New2.mk ?_; intro b c hb hbc) | (refine SameR.same ?_) | (refine Two.mk ?_ ?_) | (refine ed_eql ?_) | (refine ed_neq ?_) | (refine drawn tysOk mixed (by kernel_rfl) ?_) | fail))); all_goals (try (conv => whnf)))
        · exact ⟨fun h' hs => ⟨⟨true, rfl, fun e => (by cases e)⟩, hs.grows⟩⟩
        · refine ⟨μ - 1, i + 1, ⟨by omega, by omega, by omega⟩, by omega, by ((repeat (refine ⟨rfl, ?_⟩)); trivial), rfl, rfl, trivial⟩
    all_goals refine ⟨μ - 1, i + 1, ⟨by omega, by omega, by omega⟩, by omega, by ((repeat (refine ⟨rfl, ?_⟩)); trivial), rfl, rfl, trivial⟩
  · ((repeat' ((conv => whnf); (first | (refine Ar.fit (by omega) ?_) | (refine VC.mk (by (first | omega | rfl | assumption | exact Sl.plain (by assumption) (by omega) | (and_intros <;> first | omega | rfl | assumption | (simp only [List.length_set]; omega) | (simp only [ByteArray.size_extract, ByteArray.size_append]; omega) | (simp only [List.length_cons, List.length_nil]; omega) | (simp only [Int.toNat_natCast, Int.toNat_one, List.length_take, List.length_cons, List.length_nil] at *; omega)))) ?_) | (refine Br.mk ?_ ?_ <;> intro hb <;> (try (first | (exfalso; omega) | exact absurd rfl hb | exact Bool.noConfusion hb | exact absurd (fun e => Bool.noConfusion e) hb | (exfalso; simp only [List.length_cons, List.length_nil] at hb; omega) | (exfalso; simp only [Int.toNat_natCast, Int.toNat_one, List.length_take, List.length_cons, List.length_nil] at hb; omega)))) | (refine XLoad.of (by assumption) rfl rfl (by omega) (by omega) rfl ?_) | (refine New.mk ?_; intro b hb) | (refine New2.mk ?_; intro b c hb hbc) | (refine SameR.same ?_) | (refine Two.mk ?_ ?_) | (refine ed_eql ?_) | (refine ed_neq ?_) | (refine drawn tysOk mixed (by kernel_rfl) ?_) | fail))); all_goals (try (conv => whnf)))
    by_cases hw : (len : Int) > 200
    · exact ⟨fun h' hs => ⟨⟨true, by simp [den, den1, denC]; omega, fun e => (by cases e)⟩, hs.grows⟩⟩
    · exact ⟨fun h' hs => ⟨⟨false, by simp [den, den1, denC]; omega, fun e => by omega⟩, hs.grows⟩⟩
end Go.Ex
