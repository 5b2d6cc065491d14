/-
  Span: where places come to.
-/
import Derived.Test.YtckodkjaiopmoaaSpD
namespace Go.Ex
open Go.Proofs
set_option linter.unusedVariables false

abbrev w64 (n : Int) : Int := IntKind.i64.wrap n
theorem w64_in {n : Int} (h : -9223372036854775808 ≤ n) (h2 : n ≤ 9223372036854775807) : w64 n = n := by rw [w64, IntKind.wrap_i64]; omega
theorem w64_add (a b : Int) : w64 (w64 a + b) = w64 (a + b) := by simp only [w64, IntKind.wrap_i64]; omega
theorem w64_sub (a b : Int) : w64 (w64 a - b) = w64 (a - b) := by simp only [w64, IntKind.wrap_i64]; omega
theorem w64_three (a l d : Int) : w64 (a + (l - d)) = w64 (w64 (w64 a + l) - d) := by rw [w64_add, w64_sub, show a + l - d = a + (l - d) by omega]
def mvGo (p : Int) : List Ed → Int → Option Int
  | [], t => some t
  | x :: r, t => if x.f ≤ p ∧ p < x.t then none else if p < x.t then some t else mvGo p r (t + (x.s.size - (x.t - x.f)))
def mvF (n : Int) (L : List Ed) (p : Int) : Option Int := if chk n L ≠ 0 ∨ p < 0 ∨ n < p then none else mvGo p L p
def optV (r : Option Int) : Int := match r with | some t => w64 t | none => 0
theorem chk_range {n : Int} {L : List Ed} (h : chk n L = 0) : 0 ≤ n ∧ n ≤ 65536 ∧ chkGo n L 0 = 0 := by
  unfold chk at h
  split at h
  · omega
  · exact ⟨by omega, by omega, h⟩
/-- behind the place nothing counts -/
theorem mv_behind (n p : Int) : ∀ (L : List Ed) (e t : Int), chkGo n L e = 0 → p < e → mvGo p L t = some t
  | [], e, t, _, _ => rfl
  | x :: r, e, t, h, hp => by
    simp only [chkGo] at h
    split at h
    · omega
    · simp only [mvGo]; rw [if_neg (by omega), if_pos (by omega)]
set_option maxRecDepth 10000 in
theorem move_any (A : Option Addr) (len cap : Nat) (L : List Ed) (n p : Int) (h : Heap) (hA : Sl edR h A len L) (hS : ∀ x ∈ L, x.s.size ≤ 140737488355328) :
    CallsH Try.prog 16 #[.int .i64 n, .slice A len cap, .int .i64 p] h fun v h' => v = .tuple #[.int .i64 (optV (mvF n L p)), denC (.prop ((mvF n L p).isSome = true))] ∧ Grows h h' := by
  refine enter (rep := rep) (m := 9) (ex := [10, 25, 26, 27]) (cu := []) tysOk Try.func16 rfl (by decide) (rs := [.tmp 6, .tmp 7]) rfl rfl [.val (.int .i64 n), .val (.slice A len cap), .val (.int .i64 p)] rfl ?_
  have hlen := hA.small
  have hL := hA.len_eq
  have no : (chk n L ≠ 0 ∨ p < 0 ∨ n < p) → ∀ h', Grows h h' → (Value.tuple #[.int .i64 0, .bool false]) = .tuple #[.int .i64 (optV (mvF n L p)), denC (.prop ((mvF n L p).isSome = true))] ∧ Grows h h' := fun hh h' hg => by
    have : mvF n L p = none := by rw [mvF, if_pos hh]
    rw [this]
    exact ⟨tup_eq rfl (by simp [denC]), hg⟩
  ((repeat' ((conv => whnf); (first | (refine Ar.fit (by omega) ?_) | (refine VC.mk (by (first | omega | rfl | assumption | exact Sl.plain (by assumption) (by omega) | (and_intros <;> first | omega | rfl | assumption | (simp only [List.length_set]; omega) | (simp only [ByteArray.size_extract, ByteArray.size_append]; omega) | (simp only [List.length_cons, List.length_nil]; omega) | (simp only [Int.toNat_natCast, Int.toNat_one, List.length_take, List.length_cons, List.length_nil] at *; omega)))) ?_) | (refine Br.mk ?_ ?_ <;> intro hb <;> (try (first | (exfalso; omega) | exact absurd rfl hb | exact Bool.noConfusion hb | exact absurd (fun e => Bool.noConfusion e) hb | (exfalso; simp only [List.length_cons, List.length_nil] at hb; omega) | (exfalso; simp only [Int.toNat_natCast, Int.toNat_one, List.length_take, List.length_cons, List.length_nil] at hb; omega)))) | (refine XLoad.of (by assumption) rfl rfl (by omega) (by omega) rfl ?_) | (refine New.mk ?_; intro b hb) | (refine New2.mk ?_; intro b c hb hbc) | (refine SameR.same ?_) | (refine Two.mk ?_ ?_) | (refine ed_eql ?_) | (refine ed_neq ?_) | (refine drawn tysOk mixed (by kernel_rfl) ?_) | (apply CallK.pure; (case hh => (intro h1 hs; exact check_any _ _ _ _ _ _ (hA.grows hs.grows)))) | fail))); all_goals (try (conv => whnf)))
  · exact ⟨fun h' hs' => no (.inl hb) h' hs'.grows⟩
  · exact ⟨fun h' hs' => no (.inr (.inl hb)) h' hs'.grows⟩
  · exact ⟨fun h' hs' => no (.inr (.inr hb)) h' hs'.grows⟩
  · clear no
    have hc : chk n L = 0 := Classical.not_not.1 (by assumption)
    obtain ⟨r0, r1, hc'⟩ := chk_range hc
    obtain ⟨r, hr⟩ : ∃ r, mvGo p L p = r := ⟨_, rfl⟩
    have hF : mvF n L p = r := by rw [mvF, if_neg (by omega), hr]
    rw [hF]
    refine loop_rule tysOk [8, 27] (fun x : Int × Int => [(8, .val (.int .i64 (w64 x.1))), (27, .val (.int .i64 x.2))]) (fun _ => []) (fun μ x => 0 ≤ x.2 ∧ x.2 + μ = len ∧ mvGo p (L.drop x.2.toNat) x.1 = r) len (p, 0) ?_
    conv => whnf
    refine ⟨?_, trivial, ⟨by simp only; omega, by simp only; omega, hr⟩, ?_⟩
    · rw [w64_in (by simp only; omega) (by simp only; omega)]
      ((repeat (refine ⟨rfl, ?_⟩)); trivial)
    rintro μ ⟨a, i⟩ ⟨h0, h1, h4⟩
    dsimp only at h0 h1 h4 ⊢
    by_cases hi : i < len
    · have hm := getI_mem edR.dflt L i h0 (by omega)
      have hx := hS _ hm
      have hx2 := chk_mem _ L 0 hc' (by omega) _ hm
      rw [drop_get edR.dflt L i h0 (by omega)] at h4
      simp only [mvGo] at h4
      ((repeat' ((conv => whnf); (first | (refine Ar.fit (by omega) ?_) | (refine VC.mk (by (first | omega | rfl | assumption | exact Sl.plain (by assumption) (by omega) | (and_intros <;> first | omega | rfl | assumption | (simp only [List.length_set]; omega) | (simp only [ByteArray.size_extract, ByteArray.size_append]; omega) | (simp only [List.length_cons, List.length_nil]; omega) | (simp only [Int.toNat_natCast, Int.toNat_one, List.length_take, List.length_cons, List.length_nil] at *; omega)))) ?_) | (refine Br.mk ?_ ?_ <;> intro hb <;> (try (first | (exfalso; omega) | exact absurd rfl hb | exact Bool.noConfusion hb | exact absurd (fun e => Bool.noConfusion e) hb | (exfalso; simp only [List.length_cons, List.length_nil] at hb; omega) | (exfalso; simp only [Int.toNat_natCast, Int.toNat_one, List.length_take, List.length_cons, List.length_nil] at hb; omega)))) | (refine XLoad.of (by assumption) rfl rfl (by omega) (by omega) rfl ?_) | (refine New.mk ?_; intro b hb) | (refine New2.mk ?_; intro b c hb hbc) | (refine SameR.same ?_) | (refine Two.mk ?_ ?_) | (refine ed_eql ?_) | (refine ed_neq ?_) | (refine drawn tysOk mixed (by kernel_rfl) ?_) | fail))); all_goals (try (conv => whnf)))
      · rw [if_pos (by omega)] at h4; subst h4; exact ⟨fun h' hs' => ⟨tup_eq rfl (by simp [denC, den, den1]), hs'.grows⟩⟩
      all_goals first
        | (rw [if_neg (by omega), if_pos (by omega)] at h4; subst h4; exact ⟨fun h' hs' => ⟨tup_eq rfl (by simp [denC, den, den1]), hs'.grows⟩⟩)
        | (rw [if_neg (by omega), if_neg (by omega)] at h4
           refine Ar.wrap ?_
           ((repeat' ((conv => whnf); (first | (refine Ar.fit (by omega) ?_) | (refine VC.mk (by (first | omega | rfl | assumption | exact Sl.plain (by assumption) (by omega) | (and_intros <;> first | omega | rfl | assumption | (simp only [List.length_set]; omega) | (simp only [ByteArray.size_extract, ByteArray.size_append]; omega) | (simp only [List.length_cons, List.length_nil]; omega) | (simp only [Int.toNat_natCast, Int.toNat_one, List.length_take, List.length_cons, List.length_nil] at *; omega)))) ?_) | (refine Br.mk ?_ ?_ <;> intro hb <;> (try (first | (exfalso; omega) | exact absurd rfl hb | exact Bool.noConfusion hb | exact absurd (fun e => Bool.noConfusion e) hb | (exfalso; simp only [List.length_cons, List.length_nil] at hb; omega) | (exfalso; simp only [Int.toNat_natCast, Int.toNat_one, List.length_take, List.length_cons, List.length_nil] at hb; omega)))) | (refine XLoad.of (by assumption) rfl rfl (by omega) (by omega) rfl ?_) | (refine New.mk ?_; intro b hb) | (refine New2.mk ?_; intro b c hb hbc) | (refine SameR.same ?_) | (refine Two.mk ?_ ?_) | (refine ed_eql ?_) | (refine ed_neq ?_) | (refine drawn tysOk mixed (by kernel_rfl) ?_) | fail))); all_goals (try (conv => whnf)))
           refine ⟨μ - 1, (_, i + 1), ⟨by simp only; omega, by simp only; omega, h4⟩, by omega, ?_, rfl, rfl, trivial⟩
           dsimp only
           rw [← w64_add]
           ((repeat (refine ⟨rfl, ?_⟩)); trivial))
    · rw [drop_all L i (by omega)] at h4
      simp only [mvGo] at h4
      ((repeat' ((conv => whnf); (first | (refine Ar.fit (by omega) ?_) | (refine VC.mk (by (first | omega | rfl | assumption | exact Sl.plain (by assumption) (by omega) | (and_intros <;> first | omega | rfl | assumption | (simp only [List.length_set]; omega) | (simp only [ByteArray.size_extract, ByteArray.size_append]; omega) | (simp only [List.length_cons, List.length_nil]; omega) | (simp only [Int.toNat_natCast, Int.toNat_one, List.length_take, List.length_cons, List.length_nil] at *; omega)))) ?_) | (refine Br.mk ?_ ?_ <;> intro hb <;> (try (first | (exfalso; omega) | exact absurd rfl hb | exact Bool.noConfusion hb | exact absurd (fun e => Bool.noConfusion e) hb | (exfalso; simp only [List.length_cons, List.length_nil] at hb; omega) | (exfalso; simp only [Int.toNat_natCast, Int.toNat_one, List.length_take, List.length_cons, List.length_nil] at hb; omega)))) | (refine XLoad.of (by assumption) rfl rfl (by omega) (by omega) rfl ?_) | (refine New.mk ?_; intro b hb) | (refine New2.mk ?_; intro b c hb hbc) | (refine SameR.same ?_) | (refine Two.mk ?_ ?_) | (refine ed_eql ?_) | (refine ed_neq ?_) | (refine drawn tysOk mixed (by kernel_rfl) ?_) | fail))); all_goals (try (conv => whnf)))
      subst h4
      exact ⟨fun h' hs' => ⟨tup_eq rfl (by simp [denC, den, den1]), hs'.grows⟩⟩
set_option maxRecDepth 10000 in
theorem rmove_any (A : Option Addr) (len cap : Nat) (L : List Ed) (n p : Int) (h : Heap) (hA : Sl edR h A len L) (hS : ∀ x ∈ L, x.s.size ≤ 140737488355328) :
    CallsH Try.prog 17 #[.int .i64 n, .slice A len cap, .int .i64 p] h fun v h' => v = .tuple #[.int .i64 (optV (mvF n L p)), denC (.prop ((mvF n L p).isSome = true))] ∧ Grows h h' := by
  refine enter (rep := rep) (m := 10) (ex := []) (cu := []) tysOk Try.func17 rfl (by decide) (rs := [.tmp 6, .tmp 7]) rfl rfl [.val (.int .i64 n), .val (.slice A len cap), .val (.int .i64 p)] rfl ?_
  have hlen := hA.small
  have hL := hA.len_eq
  have no : (chk n L ≠ 0 ∨ p < 0 ∨ n < p) → ∀ h', Grows h h' → (Value.tuple #[.int .i64 0, .bool false]) = .tuple #[.int .i64 (optV (mvF n L p)), denC (.prop ((mvF n L p).isSome = true))] ∧ Grows h h' := fun hh h' hg => by
    have : mvF n L p = none := by rw [mvF, if_pos hh]
    rw [this]
    exact ⟨tup_eq rfl (by simp [denC]), hg⟩
  ((repeat' ((conv => whnf); (first | (refine Ar.fit (by omega) ?_) | (refine VC.mk (by (first | omega | rfl | assumption | exact Sl.plain (by assumption) (by omega) | (and_intros <;> first | omega | rfl | assumption | (simp only [List.length_set]; omega) | (simp only [ByteArray.size_extract, ByteArray.size_append]; omega) | (simp only [List.length_cons, List.length_nil]; omega) | (simp only [Int.toNat_natCast, Int.toNat_one, List.length_take, List.length_cons, List.length_nil] at *; omega)))) ?_) | (refine Br.mk ?_ ?_ <;> intro hb <;> (try (first | (exfalso; omega) | exact absurd rfl hb | exact Bool.noConfusion hb | exact absurd (fun e => Bool.noConfusion e) hb | (exfalso; simp only [List.length_cons, List.length_nil] at hb; omega) | (exfalso; simp only [Int.toNat_natCast, Int.toNat_one, List.length_take, List.length_cons, List.length_nil] at hb; omega)))) | (refine XLoad.of (by assumption) rfl rfl (by omega) (by omega) rfl ?_) | (refine New.mk ?_; intro b hb) | (refine New2.mk ?_; intro b c hb hbc) | (refine SameR.same ?_) | (refine Two.mk ?_ ?_) | (refine ed_eql ?_) | (refine ed_neq ?_) | (refine drawn tysOk mixed (by kernel_rfl) ?_) | (apply CallK.pure; (case hh => (intro h1 hs; exact rcheck_any _ _ _ _ _ _ (hA.grows hs.grows)))) | fail))); all_goals (try (conv => whnf)))
  · exact ⟨fun h' hs' => no (.inl hb) h' hs'.grows⟩
  · exact ⟨fun h' hs' => no (.inr (.inl hb)) h' hs'.grows⟩
  · exact ⟨fun h' hs' => no (.inr (.inr hb)) h' hs'.grows⟩
  · clear no
    have hc : chk n L = 0 := Classical.not_not.1 (by assumption)
    obtain ⟨r0, r1, hc'⟩ := chk_range hc
    obtain ⟨r, hr⟩ : ∃ r, mvGo p L p = r := ⟨_, rfl⟩
    have hF : mvF n L p = r := by rw [mvF, if_neg (by omega), hr]
    rw [hF]
    refine loop_rule tysOk [8, 9] (fun x : Int × Int => [(8, .val (.int .i64 (w64 x.1))), (9, .val (.int .i64 x.2))]) (fun _ => []) (fun μ x => 0 ≤ x.2 ∧ x.2 + μ = len ∧ mvGo p (L.drop x.2.toNat) x.1 = r ∧ ∃ e, chkGo n (L.drop x.2.toNat) e = 0 ∧ 0 ≤ e) len (p, 0) ?_
    conv => whnf
    refine ⟨?_, trivial, ⟨by simp only; omega, by simp only; omega, hr, 0, hc', by omega⟩, ?_⟩
    · rw [w64_in (by simp only; omega) (by simp only; omega)]
      ((repeat (refine ⟨rfl, ?_⟩)); trivial)
    rintro μ ⟨a, i⟩ ⟨h0, h1, h4, e, he, he0⟩
    dsimp only at h0 h1 h4 he ⊢
    by_cases hi : i < len
    · have hm := getI_mem edR.dflt L i h0 (by omega)
      have hx := hS _ hm
      have hx2 := chk_mem _ L 0 hc' (by omega) _ hm
      rw [drop_get edR.dflt L i h0 (by omega)] at h4 he
      simp only [mvGo] at h4
      simp only [chkGo] at he
      split at he
      · omega
      rename_i hne
      ((repeat' ((conv => whnf); (first | (refine Ar.fit (by omega) ?_) | (refine VC.mk (by (first | omega | rfl | assumption | exact Sl.plain (by assumption) (by omega) | (and_intros <;> first | omega | rfl | assumption | (simp only [List.length_set]; omega) | (simp only [ByteArray.size_extract, ByteArray.size_append]; omega) | (simp only [List.length_cons, List.length_nil]; omega) | (simp only [Int.toNat_natCast, Int.toNat_one, List.length_take, List.length_cons, List.length_nil] at *; omega)))) ?_) | (refine Br.mk ?_ ?_ <;> intro hb <;> (try (first | (exfalso; omega) | exact absurd rfl hb | exact Bool.noConfusion hb | exact absurd (fun e => Bool.noConfusion e) hb | (exfalso; simp only [List.length_cons, List.length_nil] at hb; omega) | (exfalso; simp only [Int.toNat_natCast, Int.toNat_one, List.length_take, List.length_cons, List.length_nil] at hb; omega)))) | (refine XLoad.of (by assumption) rfl rfl (by omega) (by omega) rfl ?_) | (refine New.mk ?_; intro b hb) | (refine New2.mk ?_; intro b c hb hbc) | (refine SameR.same ?_) | (refine Two.mk ?_ ?_) | (refine ed_eql ?_) | (refine ed_neq ?_) | (refine drawn tysOk mixed (by kernel_rfl) ?_) | fail))); all_goals (try (conv => whnf)))
      · rw [if_pos (by omega)] at h4; subst h4; exact ⟨fun h' hs' => ⟨tup_eq rfl (by simp [denC, den, den1]), hs'.grows⟩⟩
      all_goals first
        | (rw [if_neg (by omega), if_neg (by omega)] at h4
           refine Ar.wrap ?_
           ((repeat' ((conv => whnf); (first | (refine Ar.fit (by omega) ?_) | (refine VC.mk (by (first | omega | rfl | assumption | exact Sl.plain (by assumption) (by omega) | (and_intros <;> first | omega | rfl | assumption | (simp only [List.length_set]; omega) | (simp only [ByteArray.size_extract, ByteArray.size_append]; omega) | (simp only [List.length_cons, List.length_nil]; omega) | (simp only [Int.toNat_natCast, Int.toNat_one, List.length_take, List.length_cons, List.length_nil] at *; omega)))) ?_) | (refine Br.mk ?_ ?_ <;> intro hb <;> (try (first | (exfalso; omega) | exact absurd rfl hb | exact Bool.noConfusion hb | exact absurd (fun e => Bool.noConfusion e) hb | (exfalso; simp only [List.length_cons, List.length_nil] at hb; omega) | (exfalso; simp only [Int.toNat_natCast, Int.toNat_one, List.length_take, List.length_cons, List.length_nil] at hb; omega)))) | (refine XLoad.of (by assumption) rfl rfl (by omega) (by omega) rfl ?_) | (refine New.mk ?_; intro b hb) | (refine New2.mk ?_; intro b c hb hbc) | (refine SameR.same ?_) | (refine Two.mk ?_ ?_) | (refine ed_eql ?_) | (refine ed_neq ?_) | (refine drawn tysOk mixed (by kernel_rfl) ?_) | fail))); all_goals (try (conv => whnf)))
           refine Ar.wrap ?_
           ((repeat' ((conv => whnf); (first | (refine Ar.fit (by omega) ?_) | (refine VC.mk (by (first | omega | rfl | assumption | exact Sl.plain (by assumption) (by omega) | (and_intros <;> first | omega | rfl | assumption | (simp only [List.length_set]; omega) | (simp only [ByteArray.size_extract, ByteArray.size_append]; omega) | (simp only [List.length_cons, List.length_nil]; omega) | (simp only [Int.toNat_natCast, Int.toNat_one, List.length_take, List.length_cons, List.length_nil] at *; omega)))) ?_) | (refine Br.mk ?_ ?_ <;> intro hb <;> (try (first | (exfalso; omega) | exact absurd rfl hb | exact Bool.noConfusion hb | exact absurd (fun e => Bool.noConfusion e) hb | (exfalso; simp only [List.length_cons, List.length_nil] at hb; omega) | (exfalso; simp only [Int.toNat_natCast, Int.toNat_one, List.length_take, List.length_cons, List.length_nil] at hb; omega)))) | (refine XLoad.of (by assumption) rfl rfl (by omega) (by omega) rfl ?_) | (refine New.mk ?_; intro b hb) | (refine New2.mk ?_; intro b c hb hbc) | (refine SameR.same ?_) | (refine Two.mk ?_ ?_) | (refine ed_eql ?_) | (refine ed_neq ?_) | (refine drawn tysOk mixed (by kernel_rfl) ?_) | fail))); all_goals (try (conv => whnf)))
           refine ⟨μ - 1, (_, i + 1), ⟨by simp only; omega, by simp only; omega, h4, _, he, by omega⟩, by omega, ?_, rfl, rfl, trivial⟩
           dsimp only
           rw [w64_three]
           ((repeat (refine ⟨rfl, ?_⟩)); trivial))
        | (rw [if_neg (by omega), if_pos (by omega)] at h4
           refine ⟨μ - 1, (a, i + 1), ⟨by simp only; omega, by simp only; omega, ?_, _, he, by omega⟩, by omega, ?_, rfl, rfl, trivial⟩
           · rw [mv_behind _ _ _ _ _ he (by omega)]; exact h4
           · ((repeat (refine ⟨rfl, ?_⟩)); trivial))
    · rw [drop_all L i (by omega)] at h4
      simp only [mvGo] at h4
      ((repeat' ((conv => whnf); (first | (refine Ar.fit (by omega) ?_) | (refine VC.mk (by (first | omega | rfl | assumption | exact Sl.plain (by assumption) (by omega) | (and_intros <;> first | omega | rfl | assumption | (simp only [List.length_set]; omega) | (simp only [ByteArray.size_extract, ByteArray.size_append]; omega) | (simp only [List.length_cons, List.length_nil]; omega) | (simp only [Int.toNat_natCast, Int.toNat_one, List.length_take, List.length_cons, List.length_nil] at *; omega)))) ?_) | (refine Br.mk ?_ ?_ <;> intro hb <;> (try (first | (exfalso; omega) | exact absurd rfl hb | exact Bool.noConfusion hb | exact absurd (fun e => Bool.noConfusion e) hb | (exfalso; simp only [List.length_cons, List.length_nil] at hb; omega) | (exfalso; simp only [Int.toNat_natCast, Int.toNat_one, List.length_take, List.length_cons, List.length_nil] at hb; omega)))) | (refine XLoad.of (by assumption) rfl rfl (by omega) (by omega) rfl ?_) | (refine New.mk ?_; intro b hb) | (refine New2.mk ?_; intro b c hb hbc) | (refine SameR.same ?_) | (refine Two.mk ?_ ?_) | (refine ed_eql ?_) | (refine ed_neq ?_) | (refine drawn tysOk mixed (by kernel_rfl) ?_) | fail))); all_goals (try (conv => whnf)))
      subst h4
      exact ⟨fun h' hs' => ⟨tup_eq rfl (by simp [denC, den, den1]), hs'.grows⟩⟩
end Go.Ex
