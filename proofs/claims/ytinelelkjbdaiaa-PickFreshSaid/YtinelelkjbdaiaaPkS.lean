/-
  Pick: the document's answer, walked.
-/
import Derived.Test.YtinelelkjbdaiaaPkR
namespace Go.Ex
open Go.Proofs
set_option linter.unusedVariables false
set_option linter.unusedSimpArgs false
attribute [local irreducible] CallsH

/-- the least one so far -/
def Best (X : List Am) (f n best : Int) : Prop := (best = -1 ∧ ∀ j : Int, 0 ≤ j → j < n → (amAt X j).part < f) ∨
  (0 ≤ best ∧ best < n ∧ f ≤ (amAt X best).part ∧ ∀ j : Int, 0 ≤ j → j < n → f ≤ (amAt X j).part → ¬ LtX X j best)
theorem Best.skip {X : List Am} {f n best : Int} (h : Best X f n best) (hp : (amAt X n).part < f) : Best X f (n + 1) best := by
  rcases h with ⟨h1, h2⟩ | ⟨h1, h2, h3, h4⟩
  · exact .inl ⟨h1, fun j j0 j1 => by by_cases e : j = n; · subst e; exact hp
                                      exact h2 j j0 (by omega)⟩
  · exact .inr ⟨h1, by omega, h3, fun j j0 j1 jp => by by_cases e : j = n; · subst e; omega
                                                       exact h4 j j0 (by omega) jp⟩
theorem Best.first {X : List Am} {f n : Int} (n0 : 0 ≤ n) (h : Best X f n (-1)) (hp : f ≤ (amAt X n).part) : Best X f (n + 1) n := by
  rcases h with ⟨h1, h2⟩ | ⟨h1, h2, h3, h4⟩
  · refine .inr ⟨n0, by omega, hp, fun j j0 j1 jp => ?_⟩
    by_cases e : j = n
    · subst e; simp only [LtX]; omega
    · have := h2 j j0 (by omega); omega
  · omega
theorem Best.less {X : List Am} {f n best : Int} (n0 : 0 ≤ n) (b0 : 0 ≤ best) (h : Best X f n best) (hp : f ≤ (amAt X n).part) (hl : (amAt X n).part < (amAt X best).part ∨ (amAt X n).part = (amAt X best).part ∧ (amAt X n).rule < (amAt X best).rule) : Best X f (n + 1) n := by
  rcases h with ⟨h1, h2⟩ | ⟨h1, h2, h3, h4⟩
  · omega
  · refine .inr ⟨n0, by omega, hp, fun j j0 j1 jp => ?_⟩
    by_cases e : j = n
    · subst e; simp only [LtX]; omega
    · have := h4 j j0 (by omega) jp
      simp only [LtX] at this ⊢
      omega
theorem Best.more {X : List Am} {f n best : Int} (b0 : 0 ≤ best) (h : Best X f n best) (hl : ¬ ((amAt X n).part < (amAt X best).part ∨ (amAt X n).part = (amAt X best).part ∧ (amAt X n).rule < (amAt X best).rule)) : Best X f (n + 1) best := by
  rcases h with ⟨h1, h2⟩ | ⟨h1, h2, h3, h4⟩
  · omega
  · refine .inr ⟨h1, by omega, h3, fun j j0 j1 jp => ?_⟩
    by_cases e : j = n
    · subst e; simp only [LtX]; omega
    · exact h4 j j0 (by omega) jp
def moKi (k : Nat) (o : Option (Nat × Nat)) (n : Int) : KV := match o with
  | none => .val (.slice none 0 0)
  | some (b, c) => .osl k b n c
structure RS where
  m : Int
  o : Option (Nat × Nat)
  R : List Mt
  RA : List Am
  f : Int
structure RInv (L : List Pt) (X : List Am) (h : Heap) (x : RS) : Prop where
  m : x.m = x.R.length
  f0 : 0 ≤ x.f
  f1 : x.f ≤ L.length
  size : x.R.length ≤ x.f
  nil : x.o = none → x.R = []
  cap : ∀ b c, x.o = some (b, c) → x.R.length ≤ c
  reads : All2 (RM h) x.R x.RA
  so : ∀ T, Picks L X x.f T → Picks L X 0 (x.RA ++ T)
set_option maxHeartbeats 2000000 in
set_option maxRecDepth 10000 in
theorem rpick_any (A : Option Addr) (n c : Nat) (L : List Pt) (B : Option Addr) (k c2 : Nat) (M : List Mt) (X : List Am) (h : Heap) (hL : Sl partR h A n L) (hn : n ≤ 300) (hM : Sl matR h B k M) (hk : k ≤ 300)
    (hX : All2 (RM h) M X) :
    CallsH Try.prog 11 #[.slice A n c, .slice B k c2] h fun v h' => (∃ (C : Option Addr) (d e : Nat) (er : Int) (R : List Mt) (RA : List Am), v = .tuple #[.slice C d e, .int .i64 er] ∧ Res L X er RA ∧ Sl matR h' C d R ∧ All2 (RM h') R RA) ∧ Grows h h' := by
  refine enter (rep := rep) (m := 11) (ex := [13, 17, 43, 47, 56, 97, 100]) (cu := []) tysOk Try.func11 rfl (by decide) (rs := [.tmp 4, .tmp 5]) rfl rfl [.val (.slice A n c), .val (.slice B k c2)] rfl ?_
  have hlen := hL.len_eq
  have hmlen := hM.len_eq
  have hXl := hX.len
  ((repeat' ((conv => whnf); (first | (refine Ar.fit (by first | omega | (simp only [lo, hi]; omega)) ?_) | (refine VC.mk (by (first | omega | rfl | assumption | exact Sl.plain (by assumption) (by omega) | (and_intros <;> first | omega | rfl | assumption | (simp only [List.length_set]; omega) | (simp only [List.length_append, List.length_take, List.length_replicate, List.length_cons, List.length_nil]; omega) | (simp only [ByteArray.size_extract, ByteArray.size_append]; omega) | (simp only [List.length_cons, List.length_nil]; omega) | (simp only [Int.toNat_natCast, Int.toNat_one, List.length_take, List.length_cons, List.length_nil] at *; omega)))) ?_) | (refine Br.mk ?_ ?_ <;> intro hb <;> (try (first | (exfalso; omega) | exact absurd rfl hb | exact Bool.noConfusion hb | exact absurd (fun e => Bool.noConfusion e) hb | (exfalso; simp only [List.length_cons, List.length_nil] at hb; omega) | (exfalso; simp only [Int.toNat_natCast, Int.toNat_one, List.length_take, List.length_cons, List.length_nil] at hb; omega)))) | (refine XLoad.of (by assumption) rfl rfl (by omega) (by omega) rfl ?_) | (refine New.mk ?_; intro b hb) | (refine New2.mk ?_; intro b c hb hbc) | (refine NewO.mk ?_; intro b c hb hbc) | (refine SameR.same ?_) | (refine Two.mk ?_ ?_) | (refine Tri.mk ?_ ?_ ?_) | (refine ed_eql ?_) | (refine ed_neq ?_) | (refine drawn tysOk mixed (by kernel_rfl) ?_) | (apply CallK.pure; (case hh => (intro h1 hs; exact rwell_any A n c L h1 (hL.grows hs.grows) hn))) | fail))); all_goals (try (conv => whnf)))
  · exact ⟨fun h' hs => ⟨⟨none, 0, 0, 8, [], [], rfl, .inl ⟨by simpa using hb, rfl, rfl⟩, Sl.nil _ _ _, trivial⟩, hs.grows⟩⟩
  have hw : WellL L := by
    by_cases hw : WellL L
    · exact hw
    · exfalso; simp_all
  refine loop_rule tysOk [6] (fun i : Int => [(6, .val (.int .i64 i))]) (fun _ => []) (fun μ i => 0 ≤ i ∧ i ≤ k ∧ (∀ j : Int, 0 ≤ j → j < i → GoodM L (amAt X j)) ∧ μ = (k - i).toNat) k 0 ?_
  conv => whnf
  refine ⟨by ((repeat (refine ⟨rfl, ?_⟩)); trivial), trivial, ⟨by omega, by omega, fun j j0 j1 => by omega, by omega⟩, ?_⟩
  rintro μ i ⟨d1, d2, d3, d4⟩
  dsimp only
  by_cases hi : i < k
  · have hx := hX.get matR.dflt ⟨0, 0, []⟩ i d1 (by omega)
    have hmem : amAt X i ∈ X := by
      simp only [amAt, getI, List.getD]
      rw [List.getElem?_eq_getElem (by omega)]
      exact List.getElem_mem _
    by_cases hg : GoodM L (amAt X i)
    · have hg' := hg
      obtain ⟨g1, g2, g3⟩ := hg
      rw [← hx.1] at g3
      rw [← hx.2.1] at g1 g2
      ((repeat' ((conv => whnf); (first | (refine Ar.fit (by first | omega | (simp only [lo, hi]; omega)) ?_) | (refine VC.mk (by (first | omega | rfl | assumption | exact Sl.plain (by assumption) (by omega) | (and_intros <;> first | omega | rfl | assumption | (simp only [List.length_set]; omega) | (simp only [List.length_append, List.length_take, List.length_replicate, List.length_cons, List.length_nil]; omega) | (simp only [ByteArray.size_extract, ByteArray.size_append]; omega) | (simp only [List.length_cons, List.length_nil]; omega) | (simp only [Int.toNat_natCast, Int.toNat_one, List.length_take, List.length_cons, List.length_nil] at *; omega)))) ?_) | (refine Br.mk ?_ ?_ <;> intro hb <;> (try (first | (exfalso; omega) | exact absurd rfl hb | exact Bool.noConfusion hb | exact absurd (fun e => Bool.noConfusion e) hb | (exfalso; simp only [List.length_cons, List.length_nil] at hb; omega) | (exfalso; simp only [Int.toNat_natCast, Int.toNat_one, List.length_take, List.length_cons, List.length_nil] at hb; omega)))) | (refine XLoad.of (by assumption) rfl rfl (by omega) (by omega) rfl ?_) | (refine New.mk ?_; intro b hb) | (refine New2.mk ?_; intro b c hb hbc) | (refine NewO.mk ?_; intro b c hb hbc) | (refine SameR.same ?_) | (refine Two.mk ?_ ?_) | (refine Tri.mk ?_ ?_ ?_) | (refine ed_eql ?_) | (refine ed_neq ?_) | (refine drawn tysOk mixed (by kernel_rfl) ?_) | fail))); all_goals (try (conv => whnf)))
      refine ⟨μ - 1, i + 1, ⟨by omega, by omega, fun j j0 j1 => ?_, by omega⟩, by omega, by ((repeat (refine ⟨rfl, ?_⟩)); trivial), rfl, rfl, trivial⟩
      by_cases hj : j = i
      · subst hj; exact hg'
      · exact d3 j j0 (by omega)
    · have hg' : ¬ (0 ≤ (getI matR.dflt M i).part ∧ (getI matR.dflt M i).part < L.length ∧ 0 ≤ (getI matR.dflt M i).rule) := by
        rw [hx.1, hx.2.1]; exact hg
      ((repeat' ((conv => whnf); (first | (refine Ar.fit (by first | omega | (simp only [lo, hi]; omega)) ?_) | (refine VC.mk (by (first | omega | rfl | assumption | exact Sl.plain (by assumption) (by omega) | (and_intros <;> first | omega | rfl | assumption | (simp only [List.length_set]; omega) | (simp only [List.length_append, List.length_take, List.length_replicate, List.length_cons, List.length_nil]; omega) | (simp only [ByteArray.size_extract, ByteArray.size_append]; omega) | (simp only [List.length_cons, List.length_nil]; omega) | (simp only [Int.toNat_natCast, Int.toNat_one, List.length_take, List.length_cons, List.length_nil] at *; omega)))) ?_) | (refine Br.mk ?_ ?_ <;> intro hb <;> (try (first | (exfalso; omega) | exact absurd rfl hb | exact Bool.noConfusion hb | exact absurd (fun e => Bool.noConfusion e) hb | (exfalso; simp only [List.length_cons, List.length_nil] at hb; omega) | (exfalso; simp only [Int.toNat_natCast, Int.toNat_one, List.length_take, List.length_cons, List.length_nil] at hb; omega)))) | (refine XLoad.of (by assumption) rfl rfl (by omega) (by omega) rfl ?_) | (refine New.mk ?_; intro b hb) | (refine New2.mk ?_; intro b c hb hbc) | (refine NewO.mk ?_; intro b c hb hbc) | (refine SameR.same ?_) | (refine Two.mk ?_ ?_) | (refine Tri.mk ?_ ?_ ?_) | (refine ed_eql ?_) | (refine ed_neq ?_) | (refine drawn tysOk mixed (by kernel_rfl) ?_) | fail))); all_goals (try (conv => whnf)))
      all_goals exact ⟨fun h' hs => ⟨⟨none, 0, 0, 1, [], [], rfl, .inr (.inl ⟨hw, ⟨_, hmem, hg⟩, rfl, rfl⟩), Sl.nil _ _ _, trivial⟩, hs.grows⟩⟩
  have hik : i = k := by omega
  subst hik
  have hall : ∀ a ∈ X, GoodM L a := fun a ha => by
    obtain ⟨j, hj, rfl⟩ := List.mem_iff_getElem.1 ha
    have := d3 j (by omega) (by omega)
    rwa [show amAt X (j : Int) = X[j] by simp only [amAt, getI, List.getD, Int.toNat_natCast]; rw [List.getElem?_eq_getElem hj]; rfl] at this
  ((repeat' ((conv => whnf); (first | (refine Ar.fit (by first | omega | (simp only [lo, hi]; omega)) ?_) | (refine VC.mk (by (first | omega | rfl | assumption | exact Sl.plain (by assumption) (by omega) | (and_intros <;> first | omega | rfl | assumption | (simp only [List.length_set]; omega) | (simp only [List.length_append, List.length_take, List.length_replicate, List.length_cons, List.length_nil]; omega) | (simp only [ByteArray.size_extract, ByteArray.size_append]; omega) | (simp only [List.length_cons, List.length_nil]; omega) | (simp only [Int.toNat_natCast, Int.toNat_one, List.length_take, List.length_cons, List.length_nil] at *; omega)))) ?_) | (refine Br.mk ?_ ?_ <;> intro hb <;> (try (first | (exfalso; omega) | exact absurd rfl hb | exact Bool.noConfusion hb | exact absurd (fun e => Bool.noConfusion e) hb | (exfalso; simp only [List.length_cons, List.length_nil] at hb; omega) | (exfalso; simp only [Int.toNat_natCast, Int.toNat_one, List.length_take, List.length_cons, List.length_nil] at hb; omega)))) | (refine XLoad.of (by assumption) rfl rfl (by omega) (by omega) rfl ?_) | (refine New.mk ?_; intro b hb) | (refine New2.mk ?_; intro b c hb hbc) | (refine NewO.mk ?_; intro b c hb hbc) | (refine SameR.same ?_) | (refine Two.mk ?_ ?_) | (refine Tri.mk ?_ ?_ ?_) | (refine ed_eql ?_) | (refine ed_neq ?_) | (refine drawn tysOk mixed (by kernel_rfl) ?_) | fail))); all_goals (try (conv => whnf)))
  refine loop_rule tysOk [7, 8] (fun x : RS => [(7, moKi 108 x.o x.m), (8, .val (.int .i64 x.f))]) (fun x => moC 108 x.o x.R) (fun μ x => RInv L X h x ∧ μ = (L.length - x.f).toNat) L.length ⟨0, none, [], [], 0⟩ ?_
  conv => whnf
  refine ⟨by ((repeat (refine ⟨rfl, ?_⟩)); trivial), trivial, ⟨⟨rfl, by simp, by simp, by simp, fun _ => rfl, by simp, trivial, fun T hT => hT⟩, by simp⟩, ?_⟩
  rintro ν ⟨mm, o, R, RA, f⟩ ⟨⟨e0, e1, e2, e3, e4, e5, e6, e7⟩, e8⟩
  dsimp only at e0 e1 e2 e3 e4 e5 e6 e7 e8 ⊢
  rcases o with _ | ⟨bo, co⟩
  · have := e4 rfl
    subst this
    dsimp only [moKi, moC]
    ((repeat' ((conv => whnf); (first | (refine Ar.fit (by first | omega | (simp only [lo, hi]; omega)) ?_) | (refine VC.mk (by (first | omega | rfl | assumption | exact Sl.plain (by assumption) (by omega) | (and_intros <;> first | omega | rfl | assumption | (simp only [List.length_set]; omega) | (simp only [List.length_append, List.length_take, List.length_replicate, List.length_cons, List.length_nil]; omega) | (simp only [ByteArray.size_extract, ByteArray.size_append]; omega) | (simp only [List.length_cons, List.length_nil]; omega) | (simp only [Int.toNat_natCast, Int.toNat_one, List.length_take, List.length_cons, List.length_nil] at *; omega)))) ?_) | (refine Br.mk ?_ ?_ <;> intro hb <;> (try (first | (exfalso; omega) | exact absurd rfl hb | exact Bool.noConfusion hb | exact absurd (fun e => Bool.noConfusion e) hb | (exfalso; simp only [List.length_cons, List.length_nil] at hb; omega) | (exfalso; simp only [Int.toNat_natCast, Int.toNat_one, List.length_take, List.length_cons, List.length_nil] at hb; omega)))) | (refine XLoad.of (by assumption) rfl rfl (by omega) (by omega) rfl ?_) | (refine New.mk ?_; intro b hb) | (refine New2.mk ?_; intro b c hb hbc) | (refine NewO.mk ?_; intro b c hb hbc) | (refine SameR.same ?_) | (refine Two.mk ?_ ?_) | (refine Tri.mk ?_ ?_ ?_) | (refine ed_eql ?_) | (refine ed_neq ?_) | (refine drawn tysOk mixed (by kernel_rfl) ?_) | fail))); all_goals (try (conv => whnf)))
    refine loop_rule tysOk [9, 10] (fun x : Int × Int => [(9, .val (.int .i64 x.1)), (10, .val (.int .i64 x.2))]) (fun x => []) (fun μ x => -1 ≤ x.1 ∧ x.1 < k ∧ 0 ≤ x.2 ∧ x.2 ≤ k ∧ Best X f x.2 x.1 ∧ μ = (k - x.2).toNat) k (-1, 0) ?_
    conv => whnf
    refine ⟨by ((repeat (refine ⟨rfl, ?_⟩)); trivial), trivial, ⟨by simp, by dsimp only; omega, by simp, by dsimp only; omega, .inl ⟨rfl, fun j j0 j1 => by dsimp only at j1; omega⟩, by simp⟩, ?_⟩
    rintro ρ ⟨best, m⟩ ⟨b1, b2, b3, b4, b5, b6⟩
    dsimp only at b1 b2 b3 b4 b5 b6 ⊢
    by_cases hm : m < k
    · have hx := hX.get matR.dflt ⟨0, 0, []⟩ m b3 (by omega)
      have hxr : (getI matR.dflt M m).rule = (amAt X m).rule := hx.1
      have hxp : (getI matR.dflt M m).part = (amAt X m).part := hx.2.1
      by_cases hp : (getI matR.dflt M m).part < f
      · have hp' : (amAt X m).part < f := by omega
        ((repeat' ((conv => whnf); (first | (refine Ar.fit (by first | omega | (simp only [lo, hi]; omega)) ?_) | (refine VC.mk (by (first | omega | rfl | assumption | exact Sl.plain (by assumption) (by omega) | (and_intros <;> first | omega | rfl | assumption | (simp only [List.length_set]; omega) | (simp only [List.length_append, List.length_take, List.length_replicate, List.length_cons, List.length_nil]; omega) | (simp only [ByteArray.size_extract, ByteArray.size_append]; omega) | (simp only [List.length_cons, List.length_nil]; omega) | (simp only [Int.toNat_natCast, Int.toNat_one, List.length_take, List.length_cons, List.length_nil] at *; omega)))) ?_) | (refine Br.mk ?_ ?_ <;> intro hb <;> (try (first | (exfalso; omega) | exact absurd rfl hb | exact Bool.noConfusion hb | exact absurd (fun e => Bool.noConfusion e) hb | (exfalso; simp only [List.length_cons, List.length_nil] at hb; omega) | (exfalso; simp only [Int.toNat_natCast, Int.toNat_one, List.length_take, List.length_cons, List.length_nil] at hb; omega)))) | (refine XLoad.of (by assumption) rfl rfl (by omega) (by omega) rfl ?_) | (refine New.mk ?_; intro b hb) | (refine New2.mk ?_; intro b c hb hbc) | (refine NewO.mk ?_; intro b c hb hbc) | (refine SameR.same ?_) | (refine Two.mk ?_ ?_) | (refine Tri.mk ?_ ?_ ?_) | (refine ed_eql ?_) | (refine ed_neq ?_) | (refine drawn tysOk mixed (by kernel_rfl) ?_) | fail))); all_goals (try (conv => whnf)))
        refine ⟨ρ - 1, (best, m + 1), ⟨b1, b2, by dsimp only; omega, by dsimp only; omega, b5.skip hp', by dsimp only; omega⟩, by omega, by ((repeat (refine ⟨rfl, ?_⟩)); trivial), rfl, rfl, trivial⟩
      · have hp' : f ≤ (amAt X m).part := by omega
        by_cases hb0 : best = -1
        · subst hb0
          ((repeat' ((conv => whnf); (first | (refine Ar.fit (by first | omega | (simp only [lo, hi]; omega)) ?_) | (refine VC.mk (by (first | omega | rfl | assumption | exact Sl.plain (by assumption) (by omega) | (and_intros <;> first | omega | rfl | assumption | (simp only [List.length_set]; omega) | (simp only [List.length_append, List.length_take, List.length_replicate, List.length_cons, List.length_nil]; omega) | (simp only [ByteArray.size_extract, ByteArray.size_append]; omega) | (simp only [List.length_cons, List.length_nil]; omega) | (simp only [Int.toNat_natCast, Int.toNat_one, List.length_take, List.length_cons, List.length_nil] at *; omega)))) ?_) | (refine Br.mk ?_ ?_ <;> intro hb <;> (try (first | (exfalso; omega) | exact absurd rfl hb | exact Bool.noConfusion hb | exact absurd (fun e => Bool.noConfusion e) hb | (exfalso; simp only [List.length_cons, List.length_nil] at hb; omega) | (exfalso; simp only [Int.toNat_natCast, Int.toNat_one, List.length_take, List.length_cons, List.length_nil] at hb; omega)))) | (refine XLoad.of (by assumption) rfl rfl (by omega) (by omega) rfl ?_) | (refine New.mk ?_; intro b hb) | (refine New2.mk ?_; intro b c hb hbc) | (refine NewO.mk ?_; intro b c hb hbc) | (refine SameR.same ?_) | (refine Two.mk ?_ ?_) | (refine Tri.mk ?_ ?_ ?_) | (refine ed_eql ?_) | (refine ed_neq ?_) | (refine drawn tysOk mixed (by kernel_rfl) ?_) | fail))); all_goals (try (conv => whnf)))
          refine ⟨ρ - 1, (m, m + 1), ⟨by dsimp only; omega, by dsimp only; omega, by dsimp only; omega, by dsimp only; omega, Best.first b3 b5 hp', by dsimp only; omega⟩, by omega, by ((repeat (refine ⟨rfl, ?_⟩)); trivial), rfl, rfl, trivial⟩
        · have hy := hX.get matR.dflt ⟨0, 0, []⟩ best (by omega) (by omega)
          have hb1 : 0 ≤ best := by omega
          have hyr : (getI matR.dflt M best).rule = (amAt X best).rule := hy.1
          have hyp : (getI matR.dflt M best).part = (amAt X best).part := hy.2.1
          by_cases hl : (getI matR.dflt M m).part < (getI matR.dflt M best).part ∨ (getI matR.dflt M m).part = (getI matR.dflt M best).part ∧ (getI matR.dflt M m).rule < (getI matR.dflt M best).rule
          · have hl' : (amAt X m).part < (amAt X best).part ∨ (amAt X m).part = (amAt X best).part ∧ (amAt X m).rule < (amAt X best).rule := by omega
            ((repeat' ((conv => whnf); (first | (refine Ar.fit (by first | omega | (simp only [lo, hi]; omega)) ?_) | (refine VC.mk (by (first | omega | rfl | assumption | exact Sl.plain (by assumption) (by omega) | (and_intros <;> first | omega | rfl | assumption | (simp only [List.length_set]; omega) | (simp only [List.length_append, List.length_take, List.length_replicate, List.length_cons, List.length_nil]; omega) | (simp only [ByteArray.size_extract, ByteArray.size_append]; omega) | (simp only [List.length_cons, List.length_nil]; omega) | (simp only [Int.toNat_natCast, Int.toNat_one, List.length_take, List.length_cons, List.length_nil] at *; omega)))) ?_) | (refine Br.mk ?_ ?_ <;> intro hb <;> (try (first | (exfalso; omega) | exact absurd rfl hb | exact Bool.noConfusion hb | exact absurd (fun e => Bool.noConfusion e) hb | (exfalso; simp only [List.length_cons, List.length_nil] at hb; omega) | (exfalso; simp only [Int.toNat_natCast, Int.toNat_one, List.length_take, List.length_cons, List.length_nil] at hb; omega)))) | (refine XLoad.of (by assumption) rfl rfl (by omega) (by omega) rfl ?_) | (refine New.mk ?_; intro b hb) | (refine New2.mk ?_; intro b c hb hbc) | (refine NewO.mk ?_; intro b c hb hbc) | (refine SameR.same ?_) | (refine Two.mk ?_ ?_) | (refine Tri.mk ?_ ?_ ?_) | (refine ed_eql ?_) | (refine ed_neq ?_) | (refine drawn tysOk mixed (by kernel_rfl) ?_) | fail))); all_goals (try (conv => whnf)))
            all_goals refine ⟨ρ - 1, (m, m + 1), ⟨by dsimp only; omega, by dsimp only; omega, by dsimp only; omega, by dsimp only; omega, Best.less b3 hb1 b5 hp' hl', by dsimp only; omega⟩, by omega, by ((repeat (refine ⟨rfl, ?_⟩)); trivial), rfl, rfl, trivial⟩
          · have hl' : ¬ ((amAt X m).part < (amAt X best).part ∨ (amAt X m).part = (amAt X best).part ∧ (amAt X m).rule < (amAt X best).rule) := by omega
            ((repeat' ((conv => whnf); (first | (refine Ar.fit (by first | omega | (simp only [lo, hi]; omega)) ?_) | (refine VC.mk (by (first | omega | rfl | assumption | exact Sl.plain (by assumption) (by omega) | (and_intros <;> first | omega | rfl | assumption | (simp only [List.length_set]; omega) | (simp only [List.length_append, List.length_take, List.length_replicate, List.length_cons, List.length_nil]; omega) | (simp only [ByteArray.size_extract, ByteArray.size_append]; omega) | (simp only [List.length_cons, List.length_nil]; omega) | (simp only [Int.toNat_natCast, Int.toNat_one, List.length_take, List.length_cons, List.length_nil] at *; omega)))) ?_) | (refine Br.mk ?_ ?_ <;> intro hb <;> (try (first | (exfalso; omega) | exact absurd rfl hb | exact Bool.noConfusion hb | exact absurd (fun e => Bool.noConfusion e) hb | (exfalso; simp only [List.length_cons, List.length_nil] at hb; omega) | (exfalso; simp only [Int.toNat_natCast, Int.toNat_one, List.length_take, List.length_cons, List.length_nil] at hb; omega)))) | (refine XLoad.of (by assumption) rfl rfl (by omega) (by omega) rfl ?_) | (refine New.mk ?_; intro b hb) | (refine New2.mk ?_; intro b c hb hbc) | (refine NewO.mk ?_; intro b c hb hbc) | (refine SameR.same ?_) | (refine Two.mk ?_ ?_) | (refine Tri.mk ?_ ?_ ?_) | (refine ed_eql ?_) | (refine ed_neq ?_) | (refine drawn tysOk mixed (by kernel_rfl) ?_) | fail))); all_goals (try (conv => whnf)))
            all_goals refine ⟨ρ - 1, (best, m + 1), ⟨b1, b2, by dsimp only; omega, by dsimp only; omega, Best.more hb1 b5 hl', by dsimp only; omega⟩, by omega, by ((repeat (refine ⟨rfl, ?_⟩)); trivial), rfl, rfl, trivial⟩
    · have hmk : m = k := by omega
      subst hmk
      by_cases hb0 : best = -1
      · subst hb0
        ((repeat' ((conv => whnf); (first | (refine Ar.fit (by first | omega | (simp only [lo, hi]; omega)) ?_) | (refine VC.mk (by (first | omega | rfl | assumption | exact Sl.plain (by assumption) (by omega) | (and_intros <;> first | omega | rfl | assumption | (simp only [List.length_set]; omega) | (simp only [List.length_append, List.length_take, List.length_replicate, List.length_cons, List.length_nil]; omega) | (simp only [ByteArray.size_extract, ByteArray.size_append]; omega) | (simp only [List.length_cons, List.length_nil]; omega) | (simp only [Int.toNat_natCast, Int.toNat_one, List.length_take, List.length_cons, List.length_nil] at *; omega)))) ?_) | (refine Br.mk ?_ ?_ <;> intro hb <;> (try (first | (exfalso; omega) | exact absurd rfl hb | exact Bool.noConfusion hb | exact absurd (fun e => Bool.noConfusion e) hb | (exfalso; simp only [List.length_cons, List.length_nil] at hb; omega) | (exfalso; simp only [Int.toNat_natCast, Int.toNat_one, List.length_take, List.length_cons, List.length_nil] at hb; omega)))) | (refine XLoad.of (by assumption) rfl rfl (by omega) (by omega) rfl ?_) | (refine New.mk ?_; intro b hb) | (refine New2.mk ?_; intro b c hb hbc) | (refine NewO.mk ?_; intro b c hb hbc) | (refine SameR.same ?_) | (refine Two.mk ?_ ?_) | (refine Tri.mk ?_ ?_ ?_) | (refine ed_eql ?_) | (refine ed_neq ?_) | (refine drawn tysOk mixed (by kernel_rfl) ?_) | fail))); all_goals (try (conv => whnf)))
        all_goals
          have hpk := e7 [] (.done f fun j j0 j1 => by
            rcases b5 with ⟨_, h2⟩ | ⟨h1, _⟩
            · exact h2 j j0 (by omega)
            · omega)
          rw [List.append_nil] at hpk
          exact ⟨fun h' hs => ⟨⟨none, 0, 0, 0, [], RA, rfl, .inr (.inr ⟨hw, hall, rfl, hpk⟩), Sl.nil _ _ _, e6.mono fun m hm => (by cases hm)⟩, hs.grows⟩⟩
      · have hy := hX.get matR.dflt ⟨0, 0, []⟩ best (by omega) (by omega)
        have hyr : (getI matR.dflt M best).rule = (amAt X best).rule := hy.1
        have hyp : (getI matR.dflt M best).part = (amAt X best).part := hy.2.1
        rcases b5 with ⟨h1, h2⟩ | ⟨q1, q2, q3, q4⟩
        · exact absurd h1 hb0
        have hat : amAt X best ∈ X := by
          simp only [amAt, getI, List.getD]
          rw [List.getElem?_eq_getElem (by omega)]
          exact List.getElem_mem _
        obtain ⟨g1, g2, g3⟩ := hall _ hat
        obtain ⟨w1, w2, _⟩ := hw.end_ _ g1 g2
        ((repeat' ((conv => whnf); (first | (refine Ar.fit (by first | omega | (simp only [lo, hi]; omega)) ?_) | (refine VC.mk (by (first | omega | rfl | assumption | exact Sl.plain (by assumption) (by omega) | (and_intros <;> first | omega | rfl | assumption | (simp only [List.length_set]; omega) | (simp only [List.length_append, List.length_take, List.length_replicate, List.length_cons, List.length_nil]; omega) | (simp only [ByteArray.size_extract, ByteArray.size_append]; omega) | (simp only [List.length_cons, List.length_nil]; omega) | (simp only [Int.toNat_natCast, Int.toNat_one, List.length_take, List.length_cons, List.length_nil] at *; omega)))) ?_) | (refine Br.mk ?_ ?_ <;> intro hb <;> (try (first | (exfalso; omega) | exact absurd rfl hb | exact Bool.noConfusion hb | exact absurd (fun e => Bool.noConfusion e) hb | (exfalso; simp only [List.length_cons, List.length_nil] at hb; omega) | (exfalso; simp only [Int.toNat_natCast, Int.toNat_one, List.length_take, List.length_cons, List.length_nil] at hb; omega)))) | (refine XLoad.of (by assumption) rfl rfl (by omega) (by omega) rfl ?_) | (refine New.mk ?_; intro b hb) | (refine New2.mk ?_; intro b c hb hbc) | (refine NewO.mk ?_; intro b c hb hbc) | (refine SameR.same ?_) | (refine Two.mk ?_ ?_) | (refine Tri.mk ?_ ?_ ?_) | (refine ed_eql ?_) | (refine ed_neq ?_) | (refine drawn tysOk mixed (by kernel_rfl) ?_) | (apply CallK.pure; (case hh => (intro h1 hs; exact rend_any _ _ _ L _ h1 (hL.grows hs.grows) hn (by omega)))) | fail))); all_goals (try (conv => whnf)))
        rw [← hyp] at w1 w2
        refine ⟨(L.length - endL L (getI matR.dflt M best).part).toNat, ⟨1, some (b, c), [] ++ [getI matR.dflt M best], RA ++ [amAt X best], endL L (getI matR.dflt M best).part⟩, ⟨⟨rfl, by dsimp only; omega, w2, by dsimp only; rw [List.length_append, List.length_singleton]; dsimp only [List.length_nil]; omega, fun e => (by cases e), fun b' c' e => (by cases e; dsimp only; simp at hbc ⊢; omega), All2.append e6 ⟨hy, trivial⟩, fun T hT => ?_⟩, rfl⟩, by omega, by ((repeat (refine ⟨rfl, ?_⟩)); trivial), rfl, rfl, ⟨rfl, rfl, trivial⟩⟩
        rw [List.append_assoc]
        exact e7 _ (.step f best T q1 (by omega) q3 (fun j j0 j1 jf => q4 j j0 (by omega) jf) (by rw [← hyp]; exact hT))
  · have hcap := e5 bo co rfl
    subst e0
    dsimp only [moKi, moC]
    ((repeat' ((conv => whnf); (first | (refine Ar.fit (by first | omega | (simp only [lo, hi]; omega)) ?_) | (refine VC.mk (by (first | omega | rfl | assumption | exact Sl.plain (by assumption) (by omega) | (and_intros <;> first | omega | rfl | assumption | (simp only [List.length_set]; omega) | (simp only [List.length_append, List.length_take, List.length_replicate, List.length_cons, List.length_nil]; omega) | (simp only [ByteArray.size_extract, ByteArray.size_append]; omega) | (simp only [List.length_cons, List.length_nil]; omega) | (simp only [Int.toNat_natCast, Int.toNat_one, List.length_take, List.length_cons, List.length_nil] at *; omega)))) ?_) | (refine Br.mk ?_ ?_ <;> intro hb <;> (try (first | (exfalso; omega) | exact absurd rfl hb | exact Bool.noConfusion hb | exact absurd (fun e => Bool.noConfusion e) hb | (exfalso; simp only [List.length_cons, List.length_nil] at hb; omega) | (exfalso; simp only [Int.toNat_natCast, Int.toNat_one, List.length_take, List.length_cons, List.length_nil] at hb; omega)))) | (refine XLoad.of (by assumption) rfl rfl (by omega) (by omega) rfl ?_) | (refine New.mk ?_; intro b hb) | (refine New2.mk ?_; intro b c hb hbc) | (refine NewO.mk ?_; intro b c hb hbc) | (refine SameR.same ?_) | (refine Two.mk ?_ ?_) | (refine Tri.mk ?_ ?_ ?_) | (refine ed_eql ?_) | (refine ed_neq ?_) | (refine drawn tysOk mixed (by kernel_rfl) ?_) | fail))); all_goals (try (conv => whnf)))
    refine loop_rule tysOk [9, 10] (fun x : Int × Int => [(9, .val (.int .i64 x.1)), (10, .val (.int .i64 x.2))]) (fun x => [(108, bo, .arr 33 matR R co)]) (fun μ x => -1 ≤ x.1 ∧ x.1 < k ∧ 0 ≤ x.2 ∧ x.2 ≤ k ∧ Best X f x.2 x.1 ∧ μ = (k - x.2).toNat) k (-1, 0) ?_
    conv => whnf
    refine ⟨by ((repeat (refine ⟨rfl, ?_⟩)); trivial), ⟨rfl, rfl, trivial⟩, ⟨by simp, by dsimp only; omega, by simp, by dsimp only; omega, .inl ⟨rfl, fun j j0 j1 => by dsimp only at j1; omega⟩, by simp⟩, ?_⟩
    rintro ρ ⟨best, m⟩ ⟨b1, b2, b3, b4, b5, b6⟩
    dsimp only at b1 b2 b3 b4 b5 b6 ⊢
    by_cases hm : m < k
    · have hx := hX.get matR.dflt ⟨0, 0, []⟩ m b3 (by omega)
      have hxr : (getI matR.dflt M m).rule = (amAt X m).rule := hx.1
      have hxp : (getI matR.dflt M m).part = (amAt X m).part := hx.2.1
      by_cases hp : (getI matR.dflt M m).part < f
      · have hp' : (amAt X m).part < f := by omega
        ((repeat' ((conv => whnf); (first | (refine Ar.fit (by first | omega | (simp only [lo, hi]; omega)) ?_) | (refine VC.mk (by (first | omega | rfl | assumption | exact Sl.plain (by assumption) (by omega) | (and_intros <;> first | omega | rfl | assumption | (simp only [List.length_set]; omega) | (simp only [List.length_append, List.length_take, List.length_replicate, List.length_cons, List.length_nil]; omega) | (simp only [ByteArray.size_extract, ByteArray.size_append]; omega) | (simp only [List.length_cons, List.length_nil]; omega) | (simp only [Int.toNat_natCast, Int.toNat_one, List.length_take, List.length_cons, List.length_nil] at *; omega)))) ?_) | (refine Br.mk ?_ ?_ <;> intro hb <;> (try (first | (exfalso; omega) | exact absurd rfl hb | exact Bool.noConfusion hb | exact absurd (fun e => Bool.noConfusion e) hb | (exfalso; simp only [List.length_cons, List.length_nil] at hb; omega) | (exfalso; simp only [Int.toNat_natCast, Int.toNat_one, List.length_take, List.length_cons, List.length_nil] at hb; omega)))) | (refine XLoad.of (by assumption) rfl rfl (by omega) (by omega) rfl ?_) | (refine New.mk ?_; intro b hb) | (refine New2.mk ?_; intro b c hb hbc) | (refine NewO.mk ?_; intro b c hb hbc) | (refine SameR.same ?_) | (refine Two.mk ?_ ?_) | (refine Tri.mk ?_ ?_ ?_) | (refine ed_eql ?_) | (refine ed_neq ?_) | (refine drawn tysOk mixed (by kernel_rfl) ?_) | fail))); all_goals (try (conv => whnf)))
        refine ⟨ρ - 1, (best, m + 1), ⟨b1, b2, by dsimp only; omega, by dsimp only; omega, b5.skip hp', by dsimp only; omega⟩, by omega, by ((repeat (refine ⟨rfl, ?_⟩)); trivial), rfl, rfl, ⟨rfl, rfl, trivial⟩⟩
      · have hp' : f ≤ (amAt X m).part := by omega
        by_cases hb0 : best = -1
        · subst hb0
          ((repeat' ((conv => whnf); (first | (refine Ar.fit (by first | omega | (simp only [lo, hi]; omega)) ?_) | (refine VC.mk (by (first | omega | rfl | assumption | exact Sl.plain (by assumption) (by omega) | (and_intros <;> first | omega | rfl | assumption | (simp only [List.length_set]; omega) | (simp only [List.length_append, List.length_take, List.length_replicate, List.length_cons, List.length_nil]; omega) | (simp only [ByteArray.size_extract, ByteArray.size_append]; omega) | (simp only [List.length_cons, List.length_nil]; omega) | (simp only [Int.toNat_natCast, Int.toNat_one, List.length_take, List.length_cons, List.length_nil] at *; omega)))) ?_) | (refine Br.mk ?_ ?_ <;> intro hb <;> (try (first | (exfalso; omega) | exact absurd rfl hb | exact Bool.noConfusion hb | exact absurd (fun e => Bool.noConfusion e) hb | (exfalso; simp only [List.length_cons, List.length_nil] at hb; omega) | (exfalso; simp only [Int.toNat_natCast, Int.toNat_one, List.length_take, List.length_cons, List.length_nil] at hb; omega)))) | (refine XLoad.of (by assumption) rfl rfl (by omega) (by omega) rfl ?_) | (refine New.mk ?_; intro b hb) | (refine New2.mk ?_; intro b c hb hbc) | (refine NewO.mk ?_; intro b c hb hbc) | (refine SameR.same ?_) | (refine Two.mk ?_ ?_) | (refine Tri.mk ?_ ?_ ?_) | (refine ed_eql ?_) | (refine ed_neq ?_) | (refine drawn tysOk mixed (by kernel_rfl) ?_) | fail))); all_goals (try (conv => whnf)))
          refine ⟨ρ - 1, (m, m + 1), ⟨by dsimp only; omega, by dsimp only; omega, by dsimp only; omega, by dsimp only; omega, Best.first b3 b5 hp', by dsimp only; omega⟩, by omega, by ((repeat (refine ⟨rfl, ?_⟩)); trivial), rfl, rfl, ⟨rfl, rfl, trivial⟩⟩
        · have hy := hX.get matR.dflt ⟨0, 0, []⟩ best (by omega) (by omega)
          have hb1 : 0 ≤ best := by omega
          have hyr : (getI matR.dflt M best).rule = (amAt X best).rule := hy.1
          have hyp : (getI matR.dflt M best).part = (amAt X best).part := hy.2.1
          by_cases hl : (getI matR.dflt M m).part < (getI matR.dflt M best).part ∨ (getI matR.dflt M m).part = (getI matR.dflt M best).part ∧ (getI matR.dflt M m).rule < (getI matR.dflt M best).rule
          · have hl' : (amAt X m).part < (amAt X best).part ∨ (amAt X m).part = (amAt X best).part ∧ (amAt X m).rule < (amAt X best).rule := by omega
            ((repeat' ((conv => whnf); (first | (refine Ar.fit (by first | omega | (simp only [lo, hi]; omega)) ?_) | (refine VC.mk (by (first | omega | rfl | assumption | exact Sl.plain (by assumption) (by omega) | (and_intros <;> first | omega | rfl | assumption | (simp only [List.length_set]; omega) | (simp only [List.length_append, List.length_take, List.length_replicate, List.length_cons, List.length_nil]; omega) | (simp only [ByteArray.size_extract, ByteArray.size_append]; omega) | (simp only [List.length_cons, List.length_nil]; omega) | (simp only [Int.toNat_natCast, Int.toNat_one, List.length_take, List.length_cons, List.length_nil] at *; omega)))) ?_) | (refine Br.mk ?_ ?_ <;> intro hb <;> (try (first | (exfalso; omega) | exact absurd rfl hb | exact Bool.noConfusion hb | exact absurd (fun e => Bool.noConfusion e) hb | (exfalso; simp only [List.length_cons, List.length_nil] at hb; omega) | (exfalso; simp only [Int.toNat_natCast, Int.toNat_one, List.length_take, List.length_cons, List.length_nil] at hb; omega)))) | (refine XLoad.of (by assumption) rfl rfl (by omega) (by omega) rfl ?_) | (refine New.mk ?_; intro b hb) | (refine New2.mk ?_; intro b c hb hbc) | (refine NewO.mk ?_; intro b c hb hbc) | (refine SameR.same ?_) | (refine Two.mk ?_ ?_) | (refine Tri.mk ?_ ?_ ?_) | (refine ed_eql ?_) | (refine ed_neq ?_) | (refine drawn tysOk mixed (by kernel_rfl) ?_) | fail))); all_goals (try (conv => whnf)))
            all_goals refine ⟨ρ - 1, (m, m + 1), ⟨by dsimp only; omega, by dsimp only; omega, by dsimp only; omega, by dsimp only; omega, Best.less b3 hb1 b5 hp' hl', by dsimp only; omega⟩, by omega, by ((repeat (refine ⟨rfl, ?_⟩)); trivial), rfl, rfl, ⟨rfl, rfl, trivial⟩⟩
          · have hl' : ¬ ((amAt X m).part < (amAt X best).part ∨ (amAt X m).part = (amAt X best).part ∧ (amAt X m).rule < (amAt X best).rule) := by omega
            ((repeat' ((conv => whnf); (first | (refine Ar.fit (by first | omega | (simp only [lo, hi]; omega)) ?_) | (refine VC.mk (by (first | omega | rfl | assumption | exact Sl.plain (by assumption) (by omega) | (and_intros <;> first | omega | rfl | assumption | (simp only [List.length_set]; omega) | (simp only [List.length_append, List.length_take, List.length_replicate, List.length_cons, List.length_nil]; omega) | (simp only [ByteArray.size_extract, ByteArray.size_append]; omega) | (simp only [List.length_cons, List.length_nil]; omega) | (simp only [Int.toNat_natCast, Int.toNat_one, List.length_take, List.length_cons, List.length_nil] at *; omega)))) ?_) | (refine Br.mk ?_ ?_ <;> intro hb <;> (try (first | (exfalso; omega) | exact absurd rfl hb | exact Bool.noConfusion hb | exact absurd (fun e => Bool.noConfusion e) hb | (exfalso; simp only [List.length_cons, List.length_nil] at hb; omega) | (exfalso; simp only [Int.toNat_natCast, Int.toNat_one, List.length_take, List.length_cons, List.length_nil] at hb; omega)))) | (refine XLoad.of (by assumption) rfl rfl (by omega) (by omega) rfl ?_) | (refine New.mk ?_; intro b hb) | (refine New2.mk ?_; intro b c hb hbc) | (refine NewO.mk ?_; intro b c hb hbc) | (refine SameR.same ?_) | (refine Two.mk ?_ ?_) | (refine Tri.mk ?_ ?_ ?_) | (refine ed_eql ?_) | (refine ed_neq ?_) | (refine drawn tysOk mixed (by kernel_rfl) ?_) | fail))); all_goals (try (conv => whnf)))
            all_goals refine ⟨ρ - 1, (best, m + 1), ⟨b1, b2, by dsimp only; omega, by dsimp only; omega, Best.more hb1 b5 hl', by dsimp only; omega⟩, by omega, by ((repeat (refine ⟨rfl, ?_⟩)); trivial), rfl, rfl, ⟨rfl, rfl, trivial⟩⟩
    · have hmk : m = k := by omega
      subst hmk
      by_cases hb0 : best = -1
      · subst hb0
        ((repeat' ((conv => whnf); (first | (refine Ar.fit (by first | omega | (simp only [lo, hi]; omega)) ?_) | (refine VC.mk (by (first | omega | rfl | assumption | exact Sl.plain (by assumption) (by omega) | (and_intros <;> first | omega | rfl | assumption | (simp only [List.length_set]; omega) | (simp only [List.length_append, List.length_take, List.length_replicate, List.length_cons, List.length_nil]; omega) | (simp only [ByteArray.size_extract, ByteArray.size_append]; omega) | (simp only [List.length_cons, List.length_nil]; omega) | (simp only [Int.toNat_natCast, Int.toNat_one, List.length_take, List.length_cons, List.length_nil] at *; omega)))) ?_) | (refine Br.mk ?_ ?_ <;> intro hb <;> (try (first | (exfalso; omega) | exact absurd rfl hb | exact Bool.noConfusion hb | exact absurd (fun e => Bool.noConfusion e) hb | (exfalso; simp only [List.length_cons, List.length_nil] at hb; omega) | (exfalso; simp only [Int.toNat_natCast, Int.toNat_one, List.length_take, List.length_cons, List.length_nil] at hb; omega)))) | (refine XLoad.of (by assumption) rfl rfl (by omega) (by omega) rfl ?_) | (refine New.mk ?_; intro b hb) | (refine New2.mk ?_; intro b c hb hbc) | (refine NewO.mk ?_; intro b c hb hbc) | (refine SameR.same ?_) | (refine Two.mk ?_ ?_) | (refine Tri.mk ?_ ?_ ?_) | (refine ed_eql ?_) | (refine ed_neq ?_) | (refine drawn tysOk mixed (by kernel_rfl) ?_) | fail))); all_goals (try (conv => whnf)))
        all_goals
          have hpk := e7 [] (.done f fun j j0 j1 => by
            rcases b5 with ⟨_, h2⟩ | ⟨h1, _⟩
            · exact h2 j j0 (by omega)
            · omega)
          rw [List.append_nil] at hpk
          exact ⟨fun h' hs => ⟨⟨some ⟨bo, 0, none⟩, _, co, 0, R, RA, rfl, .inr (.inr ⟨hw, hall, rfl, hpk⟩), (by have := hs.sl (k := 108) rfl (Nat.le_refl R.length); rwa [List.take_length] at this), e6.mono fun m hm a r => r.grows hs.grows⟩, hs.grows⟩⟩
      · have hy := hX.get matR.dflt ⟨0, 0, []⟩ best (by omega) (by omega)
        have hyr : (getI matR.dflt M best).rule = (amAt X best).rule := hy.1
        have hyp : (getI matR.dflt M best).part = (amAt X best).part := hy.2.1
        rcases b5 with ⟨h1, h2⟩ | ⟨q1, q2, q3, q4⟩
        · exact absurd h1 hb0
        have hat : amAt X best ∈ X := by
          simp only [amAt, getI, List.getD]
          rw [List.getElem?_eq_getElem (by omega)]
          exact List.getElem_mem _
        obtain ⟨g1, g2, g3⟩ := hall _ hat
        obtain ⟨w1, w2, _⟩ := hw.end_ _ g1 g2
        ((repeat' ((conv => whnf); (first | (refine Ar.fit (by first | omega | (simp only [lo, hi]; omega)) ?_) | (refine VC.mk (by (first | omega | rfl | assumption | exact Sl.plain (by assumption) (by omega) | (and_intros <;> first | omega | rfl | assumption | (simp only [List.length_set]; omega) | (simp only [List.length_append, List.length_take, List.length_replicate, List.length_cons, List.length_nil]; omega) | (simp only [ByteArray.size_extract, ByteArray.size_append]; omega) | (simp only [List.length_cons, List.length_nil]; omega) | (simp only [Int.toNat_natCast, Int.toNat_one, List.length_take, List.length_cons, List.length_nil] at *; omega)))) ?_) | (refine Br.mk ?_ ?_ <;> intro hb <;> (try (first | (exfalso; omega) | exact absurd rfl hb | exact Bool.noConfusion hb | exact absurd (fun e => Bool.noConfusion e) hb | (exfalso; simp only [List.length_cons, List.length_nil] at hb; omega) | (exfalso; simp only [Int.toNat_natCast, Int.toNat_one, List.length_take, List.length_cons, List.length_nil] at hb; omega)))) | (refine XLoad.of (by assumption) rfl rfl (by omega) (by omega) rfl ?_) | (refine New.mk ?_; intro b hb) | (refine New2.mk ?_; intro b c hb hbc) | (refine NewO.mk ?_; intro b c hb hbc) | (refine SameR.same ?_) | (refine Two.mk ?_ ?_) | (refine Tri.mk ?_ ?_ ?_) | (refine ed_eql ?_) | (refine ed_neq ?_) | (refine drawn tysOk mixed (by kernel_rfl) ?_) | (apply CallK.pure; (case hh => (intro h1 hs; exact rend_any _ _ _ L _ h1 (hL.grows hs.grows) hn (by omega)))) | fail))); all_goals (try (conv => whnf)))
        rw [← hyp] at w1 w2
        have htk : List.take ((R.length : Nat) : Int).toNat R = R := by simp
        refine ⟨(L.length - endL L (getI matR.dflt M best).part).toNat, ⟨(R.length : Int) + 1, some (b, c), List.take ((R.length : Nat) : Int).toNat R ++ [getI matR.dflt M best], RA ++ [amAt X best], endL L (getI matR.dflt M best).part⟩, ⟨⟨by dsimp only; rw [htk, List.length_append, List.length_singleton]; omega, by dsimp only; omega, w2, by dsimp only; rw [htk, List.length_append, List.length_singleton]; omega, fun e => (by cases e), fun b' c' e => (by cases e; dsimp only; rw [htk]; simp at hbc ⊢; omega), All2.append (by rw [htk]; exact e6) ⟨hy, trivial⟩, fun T hT => ?_⟩, rfl⟩, by omega, by ((repeat (refine ⟨rfl, ?_⟩)); trivial), rfl, rfl, ⟨rfl, rfl, trivial⟩⟩
        rw [List.append_assoc]
        exact e7 _ (.step f best T q1 (by omega) q3 (fun j j0 j1 jf => q4 j j0 (by omega) jf) (by rw [← hyp]; exact hT))
end Go.Ex
