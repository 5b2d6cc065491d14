/-
  Lines: where they begin, and how many there are.
-/
import Derived.Test.YtfaiabpmaklgmaaLnA
namespace Go.Ex
open Go.Proofs
set_option linter.unusedVariables false
set_option linter.unusedSimpArgs false
attribute [local irreducible] CallsH

structure StS where
  o : Option (Nat × Nat)
  xs : List Int
  n : Int
  i : Int
structure SInv (h : Heap) (s : ByteArray) (x : StS) : Prop where
  nil : x.o = none → x.xs = [0] ∧ x.n = 1
  arr : ∀ b c, x.o = some (b, c) → h.size ≤ b
  len : x.n = x.xs.length
  i0 : 0 ≤ x.i
  iN : x.i ≤ s.size
  nle : x.n ≤ x.i + 1
  rest : x.xs ++ stGo ((byl s).drop x.i.toNat) x.i = startsF s
def stK (k0 k1 b0 : Nat) (o : Option (Nat × Nat)) (n : Int) : KV := match o with
  | none => .osl k0 b0 1 1
  | some (b, c) => .osl k1 b n c
def stC (k0 k1 b0 : Nat) (o : Option (Nat × Nat)) (L : List Int) : Chs := match o with
  | none => [(k0, b0, .arr 3 (intR .i64) [0] 1)]
  | some (b, c) => [(k1, b, .arr 3 (intR .i64) L c)]

set_option maxHeartbeats 1000000 in
set_option maxRecDepth 10000 in
theorem starts_any (s : ByteArray) (h : Heap) (hs : s.size ≤ 1048576) :
    CallsH Try.prog 10 #[.string s] h fun v h' => OwnSl (intR .i64) 3 h h' v (startsF s) ∧ Grows h h' := by
  refine enter (rep := rep) (m := 5) (ex := [7, 8]) (cu := []) tysOk Try.func10 rfl (by decide) (rs := [.tmp 2]) rfl rfl [.val (.string s)] rfl ?_
  ((repeat' ((conv => whnf); (first | (refine Ar.fit (by first | omega | (simp only [lo, hi]; omega)) ?_) | (refine VC.mk (by (first | omega | rfl | assumption | exact Sl.plain (by assumption) (by omega) | (and_intros <;> first | omega | rfl | assumption | (simp only [List.length_set]; omega) | (simp only [List.length_append, List.length_take, List.length_replicate, List.length_cons, List.length_nil]; omega) | (simp only [ByteArray.size_extract, ByteArray.size_append]; omega) | (simp only [List.length_cons, List.length_nil]; omega) | (simp only [Int.toNat_natCast, Int.toNat_one, List.length_take, List.length_cons, List.length_nil] at *; omega)))) ?_) | (refine Br.mk ?_ ?_ <;> intro hb <;> (try (first | (exfalso; omega) | exact absurd rfl hb | exact Bool.noConfusion hb | exact absurd (fun e => Bool.noConfusion e) hb | (exfalso; simp only [List.length_cons, List.length_nil] at hb; omega) | (exfalso; simp only [Int.toNat_natCast, Int.toNat_one, List.length_take, List.length_cons, List.length_nil] at hb; omega)))) | (refine XLoad.of (by assumption) rfl rfl (by omega) (by omega) rfl ?_) | (refine New.mk ?_; intro b hb) | (refine New2.mk ?_; intro b c hb hbc) | (refine SameR.same ?_) | (refine Two.mk ?_ ?_) | (refine Tri.mk ?_ ?_ ?_) | (refine ed_eql ?_) | (refine ed_neq ?_) | (refine drawn tysOk mixed (by kernel_rfl) ?_) | fail))); all_goals (try (conv => whnf)))
  refine loop_rule tysOk [3, 8] (fun x : StS => [(3, stK 5 19 b x.o x.n), (8, .val (.int .i64 x.i))]) (fun x => stC 5 19 b x.o x.xs) (fun μ x => SInv h s x ∧ μ = (s.size - x.i).toNat) s.size ⟨none, [0], 1, 0⟩ ?_
  conv => whnf
  refine ⟨by ((repeat (refine ⟨rfl, ?_⟩)); trivial), ⟨rfl, rfl, trivial⟩, ⟨⟨fun _ => ⟨rfl, rfl⟩, fun b c e => (by cases e), rfl, by simp, by simp, by simp, by simp [startsF]⟩, by simp⟩, ?_⟩
  rintro μ ⟨o, xs, n, i⟩ ⟨⟨i1, i2, i3, i4, i5, i6, i7⟩, hμ⟩
  dsimp only at i1 i2 i3 i4 i5 i6 i7 hμ ⊢
  have hbb : h.size ≤ b := hb
  by_cases hi : i < s.size
  · have hB := drop_get 0 (byl s) i i4 (by rw [byl_size]; omega)
    rw [hB] at i7
    simp only [stGo] at i7
    have hy := byteI_eq s i
    have hxs : List.take n.toNat xs = xs := List.take_of_length_le (by omega)
    rcases o with _ | ⟨b0, c0⟩
    · obtain ⟨rfl, rfl⟩ := i1 rfl
      dsimp only [stK, stC]
      ((repeat' ((conv => whnf); (first | (refine Ar.fit (by first | omega | (simp only [lo, hi]; omega)) ?_) | (refine VC.mk (by (first | omega | rfl | assumption | exact Sl.plain (by assumption) (by omega) | (and_intros <;> first | omega | rfl | assumption | (simp only [List.length_set]; omega) | (simp only [List.length_append, List.length_take, List.length_replicate, List.length_cons, List.length_nil]; omega) | (simp only [ByteArray.size_extract, ByteArray.size_append]; omega) | (simp only [List.length_cons, List.length_nil]; omega) | (simp only [Int.toNat_natCast, Int.toNat_one, List.length_take, List.length_cons, List.length_nil] at *; omega)))) ?_) | (refine Br.mk ?_ ?_ <;> intro hb <;> (try (first | (exfalso; omega) | exact absurd rfl hb | exact Bool.noConfusion hb | exact absurd (fun e => Bool.noConfusion e) hb | (exfalso; simp only [List.length_cons, List.length_nil] at hb; omega) | (exfalso; simp only [Int.toNat_natCast, Int.toNat_one, List.length_take, List.length_cons, List.length_nil] at hb; omega)))) | (refine XLoad.of (by assumption) rfl rfl (by omega) (by omega) rfl ?_) | (refine New.mk ?_; intro b hb) | (refine New2.mk ?_; intro b c hb hbc) | (refine SameR.same ?_) | (refine Two.mk ?_ ?_) | (refine Tri.mk ?_ ?_ ?_) | (refine ed_eql ?_) | (refine ed_neq ?_) | (refine drawn tysOk mixed (by kernel_rfl) ?_) | fail))); all_goals (try (conv => whnf)))
      · rw [if_pos (by omega)] at i7
        rename_i b1 hb1 _
        refine ⟨μ - 1, ⟨some (b, c), [0] ++ [i + 1], 1 + 1, i + 1⟩, ⟨⟨fun e => (by cases e), fun b' c' e => (by cases e; exact hb), by simp, by dsimp only; omega, by dsimp only; omega, by dsimp only; omega, by simpa using i7⟩, by dsimp only; omega⟩, by omega, by ((repeat (refine ⟨rfl, ?_⟩)); trivial), rfl, rfl, ⟨rfl, rfl, trivial⟩⟩
      · rw [if_neg (by omega)] at i7
        refine ⟨μ - 1, ⟨none, [0], 1, i + 1⟩, ⟨⟨fun _ => ⟨rfl, rfl⟩, fun b c e => (by cases e), rfl, by dsimp only; omega, by dsimp only; omega, by dsimp only; omega, i7⟩, by dsimp only; omega⟩, by omega, by ((repeat (refine ⟨rfl, ?_⟩)); trivial), rfl, rfl, ⟨rfl, rfl, trivial⟩⟩
    · have hb0 := i2 b0 c0 rfl
      dsimp only [stK, stC]
      ((repeat' ((conv => whnf); (first | (refine Ar.fit (by first | omega | (simp only [lo, hi]; omega)) ?_) | (refine VC.mk (by (first | omega | rfl | assumption | exact Sl.plain (by assumption) (by omega) | (and_intros <;> first | omega | rfl | assumption | (simp only [List.length_set]; omega) | (simp only [List.length_append, List.length_take, List.length_replicate, List.length_cons, List.length_nil]; omega) | (simp only [ByteArray.size_extract, ByteArray.size_append]; omega) | (simp only [List.length_cons, List.length_nil]; omega) | (simp only [Int.toNat_natCast, Int.toNat_one, List.length_take, List.length_cons, List.length_nil] at *; omega)))) ?_) | (refine Br.mk ?_ ?_ <;> intro hb <;> (try (first | (exfalso; omega) | exact absurd rfl hb | exact Bool.noConfusion hb | exact absurd (fun e => Bool.noConfusion e) hb | (exfalso; simp only [List.length_cons, List.length_nil] at hb; omega) | (exfalso; simp only [Int.toNat_natCast, Int.toNat_one, List.length_take, List.length_cons, List.length_nil] at hb; omega)))) | (refine XLoad.of (by assumption) rfl rfl (by omega) (by omega) rfl ?_) | (refine New.mk ?_; intro b hb) | (refine New2.mk ?_; intro b c hb hbc) | (refine SameR.same ?_) | (refine Two.mk ?_ ?_) | (refine Tri.mk ?_ ?_ ?_) | (refine ed_eql ?_) | (refine ed_neq ?_) | (refine drawn tysOk mixed (by kernel_rfl) ?_) | fail))); all_goals (try (conv => whnf)))
      · rw [if_pos (by omega)] at i7
        refine ⟨μ - 1, ⟨some (b, c), List.take n.toNat xs ++ [i + 1], n + 1, i + 1⟩, ⟨⟨fun e => (by cases e), fun b' c' e => (by cases e; exact hb), by dsimp only; rw [hxs, List.length_append, List.length_singleton]; omega, by dsimp only; omega, by dsimp only; omega, by dsimp only; omega, by dsimp only; rw [hxs, List.append_assoc]; exact i7⟩, by dsimp only; omega⟩, by omega, by ((repeat (refine ⟨rfl, ?_⟩)); trivial), rfl, rfl, ⟨rfl, rfl, trivial⟩⟩
      · rw [if_neg (by omega)] at i7
        refine ⟨μ - 1, ⟨some (b0, c0), xs, n, i + 1⟩, ⟨⟨fun e => (by cases e), i2, i3, by dsimp only; omega, by dsimp only; omega, by dsimp only; omega, i7⟩, by dsimp only; omega⟩, by omega, by ((repeat (refine ⟨rfl, ?_⟩)); trivial), rfl, rfl, ⟨rfl, rfl, trivial⟩⟩
  · have hd : (byl s).drop i.toNat = [] := List.drop_eq_nil_of_le (by rw [byl_size]; omega)
    rw [hd] at i7
    simp only [stGo, List.append_nil] at i7
    rcases o with _ | ⟨b0, c0⟩
    · obtain ⟨rfl, rfl⟩ := i1 rfl
      dsimp only [stK, stC]
      ((repeat' ((conv => whnf); (first | (refine Ar.fit (by first | omega | (simp only [lo, hi]; omega)) ?_) | (refine VC.mk (by (first | omega | rfl | assumption | exact Sl.plain (by assumption) (by omega) | (and_intros <;> first | omega | rfl | assumption | (simp only [List.length_set]; omega) | (simp only [List.length_append, List.length_take, List.length_replicate, List.length_cons, List.length_nil]; omega) | (simp only [ByteArray.size_extract, ByteArray.size_append]; omega) | (simp only [List.length_cons, List.length_nil]; omega) | (simp only [Int.toNat_natCast, Int.toNat_one, List.length_take, List.length_cons, List.length_nil] at *; omega)))) ?_) | (refine Br.mk ?_ ?_ <;> intro hb <;> (try (first | (exfalso; omega) | exact absurd rfl hb | exact Bool.noConfusion hb | exact absurd (fun e => Bool.noConfusion e) hb | (exfalso; simp only [List.length_cons, List.length_nil] at hb; omega) | (exfalso; simp only [Int.toNat_natCast, Int.toNat_one, List.length_take, List.length_cons, List.length_nil] at hb; omega)))) | (refine XLoad.of (by assumption) rfl rfl (by omega) (by omega) rfl ?_) | (refine New.mk ?_; intro b hb) | (refine New2.mk ?_; intro b c hb hbc) | (refine SameR.same ?_) | (refine Two.mk ?_ ?_) | (refine Tri.mk ?_ ?_ ?_) | (refine ed_eql ?_) | (refine ed_neq ?_) | (refine drawn tysOk mixed (by kernel_rfl) ?_) | fail))); all_goals (try (conv => whnf)))
      rw [← i7]
      exact ⟨fun h' hs => ⟨hs.own (k := 5) rfl rfl, hs.grows⟩⟩
    · dsimp only [stK, stC]
      ((repeat' ((conv => whnf); (first | (refine Ar.fit (by first | omega | (simp only [lo, hi]; omega)) ?_) | (refine VC.mk (by (first | omega | rfl | assumption | exact Sl.plain (by assumption) (by omega) | (and_intros <;> first | omega | rfl | assumption | (simp only [List.length_set]; omega) | (simp only [List.length_append, List.length_take, List.length_replicate, List.length_cons, List.length_nil]; omega) | (simp only [ByteArray.size_extract, ByteArray.size_append]; omega) | (simp only [List.length_cons, List.length_nil]; omega) | (simp only [Int.toNat_natCast, Int.toNat_one, List.length_take, List.length_cons, List.length_nil] at *; omega)))) ?_) | (refine Br.mk ?_ ?_ <;> intro hb <;> (try (first | (exfalso; omega) | exact absurd rfl hb | exact Bool.noConfusion hb | exact absurd (fun e => Bool.noConfusion e) hb | (exfalso; simp only [List.length_cons, List.length_nil] at hb; omega) | (exfalso; simp only [Int.toNat_natCast, Int.toNat_one, List.length_take, List.length_cons, List.length_nil] at hb; omega)))) | (refine XLoad.of (by assumption) rfl rfl (by omega) (by omega) rfl ?_) | (refine New.mk ?_; intro b hb) | (refine New2.mk ?_; intro b c hb hbc) | (refine SameR.same ?_) | (refine Two.mk ?_ ?_) | (refine Tri.mk ?_ ?_ ?_) | (refine ed_eql ?_) | (refine ed_neq ?_) | (refine drawn tysOk mixed (by kernel_rfl) ?_) | fail))); all_goals (try (conv => whnf)))
      rw [← i7]
      exact ⟨fun h' hs => ⟨hs.own (k := 19) rfl i3, hs.grows⟩⟩

set_option maxHeartbeats 1000000 in
set_option maxRecDepth 10000 in
theorem rstarts_any (s : ByteArray) (h : Heap) (hs : s.size ≤ 1048576) :
    CallsH Try.prog 13 #[.string s] h fun v h' => OwnSl (intR .i64) 3 h h' v (startsF s) ∧ Grows h h' := by
  refine enter (rep := rep) (m := 5) (ex := []) (cu := []) tysOk Try.func13 rfl (by decide) (rs := [.tmp 2]) rfl rfl [.val (.string s)] rfl ?_
  ((repeat' ((conv => whnf); (first | (refine Ar.fit (by first | omega | (simp only [lo, hi]; omega)) ?_) | (refine VC.mk (by (first | omega | rfl | assumption | exact Sl.plain (by assumption) (by omega) | (and_intros <;> first | omega | rfl | assumption | (simp only [List.length_set]; omega) | (simp only [List.length_append, List.length_take, List.length_replicate, List.length_cons, List.length_nil]; omega) | (simp only [ByteArray.size_extract, ByteArray.size_append]; omega) | (simp only [List.length_cons, List.length_nil]; omega) | (simp only [Int.toNat_natCast, Int.toNat_one, List.length_take, List.length_cons, List.length_nil] at *; omega)))) ?_) | (refine Br.mk ?_ ?_ <;> intro hb <;> (try (first | (exfalso; omega) | exact absurd rfl hb | exact Bool.noConfusion hb | exact absurd (fun e => Bool.noConfusion e) hb | (exfalso; simp only [List.length_cons, List.length_nil] at hb; omega) | (exfalso; simp only [Int.toNat_natCast, Int.toNat_one, List.length_take, List.length_cons, List.length_nil] at hb; omega)))) | (refine XLoad.of (by assumption) rfl rfl (by omega) (by omega) rfl ?_) | (refine New.mk ?_; intro b hb) | (refine New2.mk ?_; intro b c hb hbc) | (refine SameR.same ?_) | (refine Two.mk ?_ ?_) | (refine Tri.mk ?_ ?_ ?_) | (refine ed_eql ?_) | (refine ed_neq ?_) | (refine drawn tysOk mixed (by kernel_rfl) ?_) | fail))); all_goals (try (conv => whnf)))
  refine loop_rule tysOk [3, 4] (fun x : StS => [(3, stK 5 20 b x.o x.n), (4, .val (.int .i64 x.i))]) (fun x => stC 5 20 b x.o x.xs) (fun μ x => SInv h s x ∧ μ = (s.size - x.i).toNat) s.size ⟨none, [0], 1, 0⟩ ?_
  conv => whnf
  refine ⟨by ((repeat (refine ⟨rfl, ?_⟩)); trivial), ⟨rfl, rfl, trivial⟩, ⟨⟨fun _ => ⟨rfl, rfl⟩, fun b c e => (by cases e), rfl, by simp, by simp, by simp, by simp [startsF]⟩, by simp⟩, ?_⟩
  rintro μ ⟨o, xs, n, i⟩ ⟨⟨i1, i2, i3, i4, i5, i6, i7⟩, hμ⟩
  dsimp only at i1 i2 i3 i4 i5 i6 i7 hμ ⊢
  have hbb : h.size ≤ b := hb
  by_cases hi : i < s.size
  · have hB := drop_get 0 (byl s) i i4 (by rw [byl_size]; omega)
    rw [hB] at i7
    simp only [stGo] at i7
    have hy := byteI_eq s i
    have hxs : List.take n.toNat xs = xs := List.take_of_length_le (by omega)
    rcases o with _ | ⟨b0, c0⟩
    · obtain ⟨rfl, rfl⟩ := i1 rfl
      dsimp only [stK, stC]
      ((repeat' ((conv => whnf); (first | (refine Ar.fit (by first | omega | (simp only [lo, hi]; omega)) ?_) | (refine VC.mk (by (first | omega | rfl | assumption | exact Sl.plain (by assumption) (by omega) | (and_intros <;> first | omega | rfl | assumption | (simp only [List.length_set]; omega) | (simp only [List.length_append, List.length_take, List.length_replicate, List.length_cons, List.length_nil]; omega) | (simp only [ByteArray.size_extract, ByteArray.size_append]; omega) | (simp only [List.length_cons, List.length_nil]; omega) | (simp only [Int.toNat_natCast, Int.toNat_one, List.length_take, List.length_cons, List.length_nil] at *; omega)))) ?_) | (refine Br.mk ?_ ?_ <;> intro hb <;> (try (first | (exfalso; omega) | exact absurd rfl hb | exact Bool.noConfusion hb | exact absurd (fun e => Bool.noConfusion e) hb | (exfalso; simp only [List.length_cons, List.length_nil] at hb; omega) | (exfalso; simp only [Int.toNat_natCast, Int.toNat_one, List.length_take, List.length_cons, List.length_nil] at hb; omega)))) | (refine XLoad.of (by assumption) rfl rfl (by omega) (by omega) rfl ?_) | (refine New.mk ?_; intro b hb) | (refine New2.mk ?_; intro b c hb hbc) | (refine SameR.same ?_) | (refine Two.mk ?_ ?_) | (refine Tri.mk ?_ ?_ ?_) | (refine ed_eql ?_) | (refine ed_neq ?_) | (refine drawn tysOk mixed (by kernel_rfl) ?_) | fail))); all_goals (try (conv => whnf)))
      · rw [if_pos (by omega)] at i7
        rename_i b1 hb1 _
        refine ⟨μ - 1, ⟨some (b, c), [0] ++ [i + 1], 1 + 1, i + 1⟩, ⟨⟨fun e => (by cases e), fun b' c' e => (by cases e; exact hb), by simp, by dsimp only; omega, by dsimp only; omega, by dsimp only; omega, by simpa using i7⟩, by dsimp only; omega⟩, by omega, by ((repeat (refine ⟨rfl, ?_⟩)); trivial), rfl, rfl, ⟨rfl, rfl, trivial⟩⟩
      · rw [if_neg (by omega)] at i7
        refine ⟨μ - 1, ⟨none, [0], 1, i + 1⟩, ⟨⟨fun _ => ⟨rfl, rfl⟩, fun b c e => (by cases e), rfl, by dsimp only; omega, by dsimp only; omega, by dsimp only; omega, i7⟩, by dsimp only; omega⟩, by omega, by ((repeat (refine ⟨rfl, ?_⟩)); trivial), rfl, rfl, ⟨rfl, rfl, trivial⟩⟩
    · have hb0 := i2 b0 c0 rfl
      dsimp only [stK, stC]
      ((repeat' ((conv => whnf); (first | (refine Ar.fit (by first | omega | (simp only [lo, hi]; omega)) ?_) | (refine VC.mk (by (first | omega | rfl | assumption | exact Sl.plain (by assumption) (by omega) | (and_intros <;> first | omega | rfl | assumption | (simp only [List.length_set]; omega) | (simp only [List.length_append, List.length_take, List.length_replicate, List.length_cons, List.length_nil]; omega) | (simp only [ByteArray.size_extract, ByteArray.size_append]; omega) | (simp only [List.length_cons, List.length_nil]; omega) | (simp only [Int.toNat_natCast, Int.toNat_one, List.length_take, List.length_cons, List.length_nil] at *; omega)))) ?_) | (refine Br.mk ?_ ?_ <;> intro hb <;> (try (first | (exfalso; omega) | exact absurd rfl hb | exact Bool.noConfusion hb | exact absurd (fun e => Bool.noConfusion e) hb | (exfalso; simp only [List.length_cons, List.length_nil] at hb; omega) | (exfalso; simp only [Int.toNat_natCast, Int.toNat_one, List.length_take, List.length_cons, List.length_nil] at hb; omega)))) | (refine XLoad.of (by assumption) rfl rfl (by omega) (by omega) rfl ?_) | (refine New.mk ?_; intro b hb) | (refine New2.mk ?_; intro b c hb hbc) | (refine SameR.same ?_) | (refine Two.mk ?_ ?_) | (refine Tri.mk ?_ ?_ ?_) | (refine ed_eql ?_) | (refine ed_neq ?_) | (refine drawn tysOk mixed (by kernel_rfl) ?_) | fail))); all_goals (try (conv => whnf)))
      · rw [if_pos (by omega)] at i7
        refine ⟨μ - 1, ⟨some (b, c), List.take n.toNat xs ++ [i + 1], n + 1, i + 1⟩, ⟨⟨fun e => (by cases e), fun b' c' e => (by cases e; exact hb), by dsimp only; rw [hxs, List.length_append, List.length_singleton]; omega, by dsimp only; omega, by dsimp only; omega, by dsimp only; omega, by dsimp only; rw [hxs, List.append_assoc]; exact i7⟩, by dsimp only; omega⟩, by omega, by ((repeat (refine ⟨rfl, ?_⟩)); trivial), rfl, rfl, ⟨rfl, rfl, trivial⟩⟩
      · rw [if_neg (by omega)] at i7
        refine ⟨μ - 1, ⟨some (b0, c0), xs, n, i + 1⟩, ⟨⟨fun e => (by cases e), i2, i3, by dsimp only; omega, by dsimp only; omega, by dsimp only; omega, i7⟩, by dsimp only; omega⟩, by omega, by ((repeat (refine ⟨rfl, ?_⟩)); trivial), rfl, rfl, ⟨rfl, rfl, trivial⟩⟩
  · have hd : (byl s).drop i.toNat = [] := List.drop_eq_nil_of_le (by rw [byl_size]; omega)
    rw [hd] at i7
    simp only [stGo, List.append_nil] at i7
    rcases o with _ | ⟨b0, c0⟩
    · obtain ⟨rfl, rfl⟩ := i1 rfl
      dsimp only [stK, stC]
      ((repeat' ((conv => whnf); (first | (refine Ar.fit (by first | omega | (simp only [lo, hi]; omega)) ?_) | (refine VC.mk (by (first | omega | rfl | assumption | exact Sl.plain (by assumption) (by omega) | (and_intros <;> first | omega | rfl | assumption | (simp only [List.length_set]; omega) | (simp only [List.length_append, List.length_take, List.length_replicate, List.length_cons, List.length_nil]; omega) | (simp only [ByteArray.size_extract, ByteArray.size_append]; omega) | (simp only [List.length_cons, List.length_nil]; omega) | (simp only [Int.toNat_natCast, Int.toNat_one, List.length_take, List.length_cons, List.length_nil] at *; omega)))) ?_) | (refine Br.mk ?_ ?_ <;> intro hb <;> (try (first | (exfalso; omega) | exact absurd rfl hb | exact Bool.noConfusion hb | exact absurd (fun e => Bool.noConfusion e) hb | (exfalso; simp only [List.length_cons, List.length_nil] at hb; omega) | (exfalso; simp only [Int.toNat_natCast, Int.toNat_one, List.length_take, List.length_cons, List.length_nil] at hb; omega)))) | (refine XLoad.of (by assumption) rfl rfl (by omega) (by omega) rfl ?_) | (refine New.mk ?_; intro b hb) | (refine New2.mk ?_; intro b c hb hbc) | (refine SameR.same ?_) | (refine Two.mk ?_ ?_) | (refine Tri.mk ?_ ?_ ?_) | (refine ed_eql ?_) | (refine ed_neq ?_) | (refine drawn tysOk mixed (by kernel_rfl) ?_) | fail))); all_goals (try (conv => whnf)))
      rw [← i7]
      exact ⟨fun h' hs => ⟨hs.own (k := 5) rfl rfl, hs.grows⟩⟩
    · dsimp only [stK, stC]
      ((repeat' ((conv => whnf); (first | (refine Ar.fit (by first | omega | (simp only [lo, hi]; omega)) ?_) | (refine VC.mk (by (first | omega | rfl | assumption | exact Sl.plain (by assumption) (by omega) | (and_intros <;> first | omega | rfl | assumption | (simp only [List.length_set]; omega) | (simp only [List.length_append, List.length_take, List.length_replicate, List.length_cons, List.length_nil]; omega) | (simp only [ByteArray.size_extract, ByteArray.size_append]; omega) | (simp only [List.length_cons, List.length_nil]; omega) | (simp only [Int.toNat_natCast, Int.toNat_one, List.length_take, List.length_cons, List.length_nil] at *; omega)))) ?_) | (refine Br.mk ?_ ?_ <;> intro hb <;> (try (first | (exfalso; omega) | exact absurd rfl hb | exact Bool.noConfusion hb | exact absurd (fun e => Bool.noConfusion e) hb | (exfalso; simp only [List.length_cons, List.length_nil] at hb; omega) | (exfalso; simp only [Int.toNat_natCast, Int.toNat_one, List.length_take, List.length_cons, List.length_nil] at hb; omega)))) | (refine XLoad.of (by assumption) rfl rfl (by omega) (by omega) rfl ?_) | (refine New.mk ?_; intro b hb) | (refine New2.mk ?_; intro b c hb hbc) | (refine SameR.same ?_) | (refine Two.mk ?_ ?_) | (refine Tri.mk ?_ ?_ ?_) | (refine ed_eql ?_) | (refine ed_neq ?_) | (refine drawn tysOk mixed (by kernel_rfl) ?_) | fail))); all_goals (try (conv => whnf)))
      rw [← i7]
      exact ⟨fun h' hs => ⟨hs.own (k := 20) rfl i3, hs.grows⟩⟩

theorem cs26 (s : ByteArray) (w : World) : (callFunc 26 #[.string s, .int .u8 10]).run Try.prog w = .ok (.value (.int .i64 ((s.data.toList.count 10 : Nat) : Int))) w := by
  rw [run_callFunc_extern (e := Extern.BytealgCount.count) Try.func26 (by decide) rfl (by decide +kernel) (by kernel_rfl)]
  rw [Go.Lib.run_countString]
  rfl
theorem count_stGo : ∀ (l : List UInt8) (i : Int), (stGo (l.map fun b => (b.toNat : Int)) i).length = l.count 10
  | [], i => rfl
  | c :: r, i => by
    simp only [List.map_cons, stGo, List.count_cons]
    have ih := count_stGo r (i + 1)
    by_cases h : c = 10
    · subst h
      rw [if_pos (by decide), List.length_cons, ih]; simp
    · have h2 : ¬ ((c.toNat : Int) = 10) := fun e => h (by
        have : c.toNat = 10 := by omega
        exact UInt8.toNat_inj.1 this)
      rw [if_neg h2, ih]; simp [h]
theorem count_starts (s : ByteArray) : ((s.data.toList.count 10 : Nat) : Int) + 1 = (startsF s).length := by
  simp only [startsF, List.length_cons, byl, count_stGo]; omega
set_option maxHeartbeats 1000000 in
set_option maxRecDepth 10000 in
theorem scount_any (s : ByteArray) (h : Heap) : CallsH Try.prog 21 #[.string s, .string ⟨#[10]⟩] h fun v h' => v = .int .i64 ((s.data.toList.count 10 : Nat) : Int) ∧ Grows h h' := by
  refine enter (rep := rep) (m := 7) (ex := []) (cu := []) tysOk Try.func21 rfl (by decide) (rs := [.tmp 4]) rfl rfl [.val (.string s), .val (.string ⟨#[10]⟩)] rfl ?_
  have hsz : (⟨#[10]⟩ : ByteArray).size = 1 := rfl
  ((repeat' ((conv => whnf); (first | (refine Ar.fit (by first | omega | (simp only [lo, hi]; omega)) ?_) | (refine VC.mk (by (first | omega | rfl | assumption | exact Sl.plain (by assumption) (by omega) | (and_intros <;> first | omega | rfl | assumption | (simp only [List.length_set]; omega) | (simp only [List.length_append, List.length_take, List.length_replicate, List.length_cons, List.length_nil]; omega) | (simp only [ByteArray.size_extract, ByteArray.size_append]; omega) | (simp only [List.length_cons, List.length_nil]; omega) | (simp only [Int.toNat_natCast, Int.toNat_one, List.length_take, List.length_cons, List.length_nil] at *; omega)))) ?_) | (refine Br.mk ?_ ?_ <;> intro hb <;> (try (first | (exfalso; omega) | exact absurd rfl hb | exact Bool.noConfusion hb | exact absurd (fun e => Bool.noConfusion e) hb | (exfalso; simp only [List.length_cons, List.length_nil] at hb; omega) | (exfalso; simp only [Int.toNat_natCast, Int.toNat_one, List.length_take, List.length_cons, List.length_nil] at hb; omega)))) | (refine XLoad.of (by assumption) rfl rfl (by omega) (by omega) rfl ?_) | (refine New.mk ?_; intro b hb) | (refine New2.mk ?_; intro b c hb hbc) | (refine SameR.same ?_) | (refine Two.mk ?_ ?_) | (refine Tri.mk ?_ ?_ ?_) | (refine ed_eql ?_) | (refine ed_neq ?_) | (refine drawn tysOk mixed (by kernel_rfl) ?_) | fail))); all_goals (try (conv => whnf)))
  refine CallK.ext _ (fun w => cs26 s w) ?_
  ((repeat' ((conv => whnf); (first | (refine Ar.fit (by first | omega | (simp only [lo, hi]; omega)) ?_) | (refine VC.mk (by (first | omega | rfl | assumption | exact Sl.plain (by assumption) (by omega) | (and_intros <;> first | omega | rfl | assumption | (simp only [List.length_set]; omega) | (simp only [List.length_append, List.length_take, List.length_replicate, List.length_cons, List.length_nil]; omega) | (simp only [ByteArray.size_extract, ByteArray.size_append]; omega) | (simp only [List.length_cons, List.length_nil]; omega) | (simp only [Int.toNat_natCast, Int.toNat_one, List.length_take, List.length_cons, List.length_nil] at *; omega)))) ?_) | (refine Br.mk ?_ ?_ <;> intro hb <;> (try (first | (exfalso; omega) | exact absurd rfl hb | exact Bool.noConfusion hb | exact absurd (fun e => Bool.noConfusion e) hb | (exfalso; simp only [List.length_cons, List.length_nil] at hb; omega) | (exfalso; simp only [Int.toNat_natCast, Int.toNat_one, List.length_take, List.length_cons, List.length_nil] at hb; omega)))) | (refine XLoad.of (by assumption) rfl rfl (by omega) (by omega) rfl ?_) | (refine New.mk ?_; intro b hb) | (refine New2.mk ?_; intro b c hb hbc) | (refine SameR.same ?_) | (refine Two.mk ?_ ?_) | (refine Tri.mk ?_ ?_ ?_) | (refine ed_eql ?_) | (refine ed_neq ?_) | (refine drawn tysOk mixed (by kernel_rfl) ?_) | fail))); all_goals (try (conv => whnf)))
  exact ⟨fun h' hs => ⟨rfl, hs.grows⟩⟩
set_option maxHeartbeats 1000000 in
set_option maxRecDepth 10000 in
theorem count_any (s : ByteArray) (h : Heap) (hs : s.size ≤ 1048576) : CallsH Try.prog 14 #[.string s] h fun v h' => v = .int .i64 (startsF s).length ∧ Grows h h' := by
  refine enter (rep := rep) (m := 3) (ex := []) (cu := []) tysOk Try.func14 rfl (by decide) (rs := [.tmp 2]) rfl rfl [.val (.string s)] rfl ?_
  have hc := count_starts s
  have hl := starts_len s
  ((repeat' ((conv => whnf); (first | (refine Ar.fit (by first | omega | (simp only [lo, hi]; omega)) ?_) | (refine VC.mk (by (first | omega | rfl | assumption | exact Sl.plain (by assumption) (by omega) | (and_intros <;> first | omega | rfl | assumption | (simp only [List.length_set]; omega) | (simp only [List.length_append, List.length_take, List.length_replicate, List.length_cons, List.length_nil]; omega) | (simp only [ByteArray.size_extract, ByteArray.size_append]; omega) | (simp only [List.length_cons, List.length_nil]; omega) | (simp only [Int.toNat_natCast, Int.toNat_one, List.length_take, List.length_cons, List.length_nil] at *; omega)))) ?_) | (refine Br.mk ?_ ?_ <;> intro hb <;> (try (first | (exfalso; omega) | exact absurd rfl hb | exact Bool.noConfusion hb | exact absurd (fun e => Bool.noConfusion e) hb | (exfalso; simp only [List.length_cons, List.length_nil] at hb; omega) | (exfalso; simp only [Int.toNat_natCast, Int.toNat_one, List.length_take, List.length_cons, List.length_nil] at hb; omega)))) | (refine XLoad.of (by assumption) rfl rfl (by omega) (by omega) rfl ?_) | (refine New.mk ?_; intro b hb) | (refine New2.mk ?_; intro b c hb hbc) | (refine SameR.same ?_) | (refine Two.mk ?_ ?_) | (refine Tri.mk ?_ ?_ ?_) | (refine ed_eql ?_) | (refine ed_neq ?_) | (refine drawn tysOk mixed (by kernel_rfl) ?_) | (apply CallK.pure; (case hh => (intro h1 hs; exact scount_any _ _))) | fail))); all_goals (try (conv => whnf)))
  exact ⟨fun h' hs => ⟨int_eq hc, hs.grows⟩⟩
end Go.Ex
