/-
  Pick: the same matches; more than is looked at.
-/
import Derived.Test.YtinelelkjbdaiaaPkQ
namespace Go.Ex
open Go.Proofs
set_option linter.unusedVariables false
set_option linter.unusedSimpArgs false
theorem sih40 : Try.prog.stoodInHeld 40 = false := by kernel_rfl
theorem egt40 : Try.prog.eqGuardType Try.prog.depth 40 = false := by kernel_rfl
theorem fld40 : Try.prog.fieldsOf 40 = #[{ name := "Name", type := 9, offset := 0, embedded := false, tag := "", pkgPath := "", byteOffset := 0 },
        { name := "From", type := 3, offset := 1, embedded := false, tag := "", pkgPath := "", byteOffset := 16 },
        { name := "To", type := 3, offset := 2, embedded := false, tag := "", pkgPath := "", byteOffset := 24 }] := by kernel_rfl
theorem eq40 (f1 t1 f2 t2 : Int) (s1 s2 : ByteArray) (w : World) : (Op.equalIn 10000 40 (.agg #[.string s1, .int .i64 f1, .int .i64 t1]) (.agg #[.string s2, .int .i64 f2, .int .i64 t2])).run Try.prog w
   = .ok (@decide (s1 = s2 ∧ f1 = f2 ∧ t1 = t2) (Classical.propDecidable _)) w := by
  have h1 : Try.prog.underlying 40 = some (.struct (Try.prog.fieldsOf 40)) := by rw [fld40]; exact Try.underlying40
  have h3 := Try.underlying3
  have h9 := Try.underlying9
  have hs : s1 = s2 ↔ s1.toList = s2.toList := by
    constructor
    · rintro rfl; rfl
    · intro h; exact ByteArray.ext (Array.ext' (by rw [← ByteArray.toList_eq, ← ByteArray.toList_eq]; exact h))
  rw [run_equalIn_agg _ _ _ _ _ h1 sih40, fld40, dec_eq]
  simp [Op.eqFields, part, isAgg, underlying, h3, h9, run_equalIn_int, run_equalIn_string, hs]
  by_cases c : s1.toList = s2.toList <;> by_cases a : f1 = f2 <;> by_cases b : t1 = t2 <;> simp [a, b, c]
theorem bd_neq {f1 t1 f2 t2 : Int} {s1 s2 : ByteArray} {κ : KV → Prop} (h : κ (.prop (¬ (s1 = s2 ∧ f1 = f2 ∧ t1 = t2)))) :
    EqK Try.prog .neq 40 (.agg [.val (.string s1), .val (.int .i64 f1), .val (.int .i64 t1)]) (.agg [.val (.string s2), .val (.int .i64 f2), .val (.int .i64 t2)]) κ := ⟨_, fun u v w => by
  show (do eqGuard .neq 40 u v (.agg #[.string s1, .int .i64 f1, .int .i64 t1]) (.agg #[.string s2, .int .i64 f2, .int .i64 t2]); binOp .neq 40 (.agg #[.string s1, .int .i64 f1, .int .i64 t1]) (.agg #[.string s2, .int .i64 f2, .int .i64 t2]) : Sem Value).run Try.prog w = _
  simp only [Sem.run_bind, run_eqGuard_agg _ _ _ _ _ _ _ egt40, Result.andThen_ok, run_neq_struct, eq40]
  simp [denC, dec_eq], h⟩
attribute [local irreducible] CallsH
theorem bd_ext {x y : Bd} (h : x.name = y.name ∧ x.frm = y.frm ∧ x.to = y.to) : x = y := by
  obtain ⟨a, b, c⟩ := x; obtain ⟨d, e, f⟩ := y; obtain ⟨h1, h2, h3⟩ := h
  dsimp only at h1 h2 h3; subst h1 h2 h3; rfl
set_option maxRecDepth 10000 in
theorem samebinds_any (A A' : Option Addr) (len len' cap cap' : Nat) (L L' : List Bd) (h : Heap) (hA : Sl bindR h A len L) (hA' : Sl bindR h A' len' L') :
    CallsH Try.prog 25 #[.slice A len cap, .slice A' len' cap'] h fun v h' => v = denC (.prop (L = L')) ∧ Grows h h' := by
  refine enter (rep := rep) (m := 6) (ex := [10, 14, 25]) (cu := []) tysOk Try.func25 rfl (by decide) (rs := [.tmp 4]) rfl rfl [.val (.slice A len cap), .val (.slice A' len' cap')] rfl ?_
  have hlen := hA.small
  have hL := hA.len_eq
  have hL' := hA'.len_eq
  ((repeat' ((conv => whnf); (first | (refine Ar.fit (by first | omega | (simp only [lo, hi]; omega)) ?_) | (refine VC.mk (by (first | omega | rfl | assumption | exact Sl.plain (by assumption) (by omega) | (and_intros <;> first | omega | rfl | assumption | (simp only [List.length_set]; omega) | (simp only [List.length_append, List.length_take, List.length_replicate, List.length_cons, List.length_nil]; omega) | (simp only [ByteArray.size_extract, ByteArray.size_append]; omega) | (simp only [List.length_cons, List.length_nil]; omega) | (simp only [Int.toNat_natCast, Int.toNat_one, List.length_take, List.length_cons, List.length_nil] at *; omega)))) ?_) | (refine Br.mk ?_ ?_ <;> intro hb <;> (try (first | (exfalso; omega) | exact absurd rfl hb | exact Bool.noConfusion hb | exact absurd (fun e => Bool.noConfusion e) hb | (exfalso; simp only [List.length_cons, List.length_nil] at hb; omega) | (exfalso; simp only [Int.toNat_natCast, Int.toNat_one, List.length_take, List.length_cons, List.length_nil] at hb; omega)))) | (refine XLoad.of (by assumption) rfl rfl (by omega) (by omega) rfl ?_) | (refine New.mk ?_; intro b hb) | (refine New2.mk ?_; intro b c hb hbc) | (refine NewO.mk ?_; intro b c hb hbc) | (refine SameR.same ?_) | (refine Two.mk ?_ ?_) | (refine Tri.mk ?_ ?_ ?_) | (refine ed_eql ?_) | (refine ed_neq ?_) | (refine drawn tysOk mixed (by kernel_rfl) ?_) | fail))); all_goals (try (conv => whnf)))
  · exact ⟨fun h' hs => ⟨bool_no (fun e => by subst e; omega), hs.grows⟩⟩
  refine loop_rule tysOk [5] (fun i : Int => [(5, .val (.int .i64 i))]) (fun _ => []) (fun μ i => 0 ≤ i ∧ i + μ = len ∧ (L = L' ↔ L.drop i.toNat = L'.drop i.toNat)) len 0 ?_
  conv => whnf
  refine ⟨?_, trivial, ⟨by omega, by simp, by simp⟩, ?_⟩
  · ((repeat (refine ⟨rfl, ?_⟩)); trivial)
  rintro μ i ⟨h0, h1, h2⟩
  dsimp only
  by_cases hi : i < len
  · rw [drop_get bindR.dflt L i h0 (by omega), drop_get bindR.dflt L' i h0 (by omega), List.cons.injEq] at h2
    ((repeat' ((conv => whnf); (first | (refine Ar.fit (by first | omega | (simp only [lo, hi]; omega)) ?_) | (refine VC.mk (by (first | omega | rfl | assumption | exact Sl.plain (by assumption) (by omega) | (and_intros <;> first | omega | rfl | assumption | (simp only [List.length_set]; omega) | (simp only [List.length_append, List.length_take, List.length_replicate, List.length_cons, List.length_nil]; omega) | (simp only [ByteArray.size_extract, ByteArray.size_append]; omega) | (simp only [List.length_cons, List.length_nil]; omega) | (simp only [Int.toNat_natCast, Int.toNat_one, List.length_take, List.length_cons, List.length_nil] at *; omega)))) ?_) | (refine Br.mk ?_ ?_ <;> intro hb <;> (try (first | (exfalso; omega) | exact absurd rfl hb | exact Bool.noConfusion hb | exact absurd (fun e => Bool.noConfusion e) hb | (exfalso; simp only [List.length_cons, List.length_nil] at hb; omega) | (exfalso; simp only [Int.toNat_natCast, Int.toNat_one, List.length_take, List.length_cons, List.length_nil] at hb; omega)))) | (refine XLoad.of (by assumption) rfl rfl (by omega) (by omega) rfl ?_) | (refine New.mk ?_; intro b hb) | (refine New2.mk ?_; intro b c hb hbc) | (refine NewO.mk ?_; intro b c hb hbc) | (refine SameR.same ?_) | (refine Two.mk ?_ ?_) | (refine Tri.mk ?_ ?_ ?_) | (refine ed_eql ?_) | (refine ed_neq ?_) | (refine drawn tysOk mixed (by kernel_rfl) ?_) | (refine bd_neq ?_) | fail))); all_goals (try (conv => whnf)))
    · exact ⟨fun h' hs => ⟨bool_no (fun e => hb (by have := (h2.1 e).1; rw [this]; exact ⟨rfl, rfl, rfl⟩)), hs.grows⟩⟩
    · have hb' := Classical.not_not.1 hb
      refine ⟨μ - 1, i + 1, ⟨by omega, by omega, h2.trans ⟨fun h => h.2, fun h => ⟨bd_ext hb', h⟩⟩⟩, by omega, ?_, rfl, rfl, trivial⟩
      ((repeat (refine ⟨rfl, ?_⟩)); trivial)
  · rw [drop_all L i (by omega), drop_all L' i (by omega)] at h2
    ((repeat' ((conv => whnf); (first | (refine Ar.fit (by first | omega | (simp only [lo, hi]; omega)) ?_) | (refine VC.mk (by (first | omega | rfl | assumption | exact Sl.plain (by assumption) (by omega) | (and_intros <;> first | omega | rfl | assumption | (simp only [List.length_set]; omega) | (simp only [List.length_append, List.length_take, List.length_replicate, List.length_cons, List.length_nil]; omega) | (simp only [ByteArray.size_extract, ByteArray.size_append]; omega) | (simp only [List.length_cons, List.length_nil]; omega) | (simp only [Int.toNat_natCast, Int.toNat_one, List.length_take, List.length_cons, List.length_nil] at *; omega)))) ?_) | (refine Br.mk ?_ ?_ <;> intro hb <;> (try (first | (exfalso; omega) | exact absurd rfl hb | exact Bool.noConfusion hb | exact absurd (fun e => Bool.noConfusion e) hb | (exfalso; simp only [List.length_cons, List.length_nil] at hb; omega) | (exfalso; simp only [Int.toNat_natCast, Int.toNat_one, List.length_take, List.length_cons, List.length_nil] at hb; omega)))) | (refine XLoad.of (by assumption) rfl rfl (by omega) (by omega) rfl ?_) | (refine New.mk ?_; intro b hb) | (refine New2.mk ?_; intro b c hb hbc) | (refine NewO.mk ?_; intro b c hb hbc) | (refine SameR.same ?_) | (refine Two.mk ?_ ?_) | (refine Tri.mk ?_ ?_ ?_) | (refine ed_eql ?_) | (refine ed_neq ?_) | (refine drawn tysOk mixed (by kernel_rfl) ?_) | fail))); all_goals (try (conv => whnf)))
    exact ⟨fun h' hs => ⟨bool_yes (h2.2 rfl), hs.grows⟩⟩
theorem am_iff {x y : Am} : x = y ↔ x.rule = y.rule ∧ x.part = y.part ∧ x.bs = y.bs := by
  obtain ⟨a, b, c⟩ := x; obtain ⟨d, e, f⟩ := y
  simp
theorem prop_iff {p q : Prop} (h : p ↔ q) : denC (.prop p) = denC (.prop q) := by rw [propext h]
set_option maxRecDepth 10000 in
theorem samematch_any (m m' : Mt) (x x' : Am) (h : Heap) (hm : RM h m x) (hm' : RM h m' x') :
    CallsH Try.prog 20 #[.agg #[.int .i64 m.rule, .int .i64 m.part, .slice m.A m.n m.c], .agg #[.int .i64 m'.rule, .int .i64 m'.part, .slice m'.A m'.n m'.c]] h fun v h' => v = denC (.prop (x = x')) ∧ Grows h h' := by
  refine enter (rep := rep) (m := 5) (ex := []) (cu := []) tysOk Try.func20 rfl (by decide) (rs := [.tmp 4]) rfl rfl [.agg [.val (.int .i64 m.rule), .val (.int .i64 m.part), .val (.slice m.A m.n m.c)], .agg [.val (.int .i64 m'.rule), .val (.int .i64 m'.part), .val (.slice m'.A m'.n m'.c)]] rfl ?_
  obtain ⟨r1, r2, r3⟩ := hm
  obtain ⟨s1, s2, s3⟩ := hm'
  have hi : x = x' ↔ m.rule = m'.rule ∧ m.part = m'.part ∧ x.bs = x'.bs := by rw [am_iff, r1, r2, s1, s2]
  ((repeat' ((conv => whnf); (first | (refine Ar.fit (by first | omega | (simp only [lo, hi]; omega)) ?_) | (refine VC.mk (by (first | omega | rfl | assumption | exact Sl.plain (by assumption) (by omega) | (and_intros <;> first | omega | rfl | assumption | (simp only [List.length_set]; omega) | (simp only [List.length_append, List.length_take, List.length_replicate, List.length_cons, List.length_nil]; omega) | (simp only [ByteArray.size_extract, ByteArray.size_append]; omega) | (simp only [List.length_cons, List.length_nil]; omega) | (simp only [Int.toNat_natCast, Int.toNat_one, List.length_take, List.length_cons, List.length_nil] at *; omega)))) ?_) | (refine Br.mk ?_ ?_ <;> intro hb <;> (try (first | (exfalso; omega) | exact absurd rfl hb | exact Bool.noConfusion hb | exact absurd (fun e => Bool.noConfusion e) hb | (exfalso; simp only [List.length_cons, List.length_nil] at hb; omega) | (exfalso; simp only [Int.toNat_natCast, Int.toNat_one, List.length_take, List.length_cons, List.length_nil] at hb; omega)))) | (refine XLoad.of (by assumption) rfl rfl (by omega) (by omega) rfl ?_) | (refine New.mk ?_; intro b hb) | (refine New2.mk ?_; intro b c hb hbc) | (refine NewO.mk ?_; intro b c hb hbc) | (refine SameR.same ?_) | (refine Two.mk ?_ ?_) | (refine Tri.mk ?_ ?_ ?_) | (refine ed_eql ?_) | (refine ed_neq ?_) | (refine drawn tysOk mixed (by kernel_rfl) ?_) | (apply CallK.pure; (case hh => (intro h1 hs; exact samebinds_any m.A m'.A m.n m'.n m.c m'.c x.bs x'.bs h1 (r3.grows hs.grows) (s3.grows hs.grows)))) | fail))); all_goals (try (conv => whnf)))
  · exact ⟨fun h' hs => ⟨prop_eq (by rw [hi]; simp only [decide_eq_true_eq]; exact ⟨fun h => ⟨by assumption, by assumption, h⟩, fun h => h.2.2⟩), hs.grows⟩⟩
  · exact ⟨fun h' hs => ⟨bool_no (fun e => hb (hi.1 e).2.1), hs.grows⟩⟩
  · exact ⟨fun h' hs => ⟨bool_no (fun e => hb (hi.1 e).1), hs.grows⟩⟩
theorem RM.grows {h h' : Heap} {m : Mt} {a : Am} (r : RM h m a) (g : Grows h h') : RM h' m a := ⟨r.1, r.2.1, r.2.2.grows g⟩
set_option maxRecDepth 10000 in
theorem same_any (A A' : Option Addr) (len len' cap cap' : Nat) (M M' : List Mt) (L L' : List Am) (h : Heap) (hA : Sl matR h A len M) (hA' : Sl matR h A' len' M') (hX : All2 (RM h) M L) (hX' : All2 (RM h) M' L') :
    CallsH Try.prog 12 #[.slice A len cap, .slice A' len' cap'] h fun v h' => v = denC (.prop (L = L')) ∧ Grows h h' := by
  refine enter (rep := rep) (m := 6) (ex := [10, 14, 26]) (cu := []) tysOk Try.func12 rfl (by decide) (rs := [.tmp 4]) rfl rfl [.val (.slice A len cap), .val (.slice A' len' cap')] rfl ?_
  have hlen := hA.small
  have hL := hX.len
  have hL' := hX'.len
  have hM := hA.len_eq
  have hM' := hA'.len_eq
  ((repeat' ((conv => whnf); (first | (refine Ar.fit (by first | omega | (simp only [lo, hi]; omega)) ?_) | (refine VC.mk (by (first | omega | rfl | assumption | exact Sl.plain (by assumption) (by omega) | (and_intros <;> first | omega | rfl | assumption | (simp only [List.length_set]; omega) | (simp only [List.length_append, List.length_take, List.length_replicate, List.length_cons, List.length_nil]; omega) | (simp only [ByteArray.size_extract, ByteArray.size_append]; omega) | (simp only [List.length_cons, List.length_nil]; omega) | (simp only [Int.toNat_natCast, Int.toNat_one, List.length_take, List.length_cons, List.length_nil] at *; omega)))) ?_) | (refine Br.mk ?_ ?_ <;> intro hb <;> (try (first | (exfalso; omega) | exact absurd rfl hb | exact Bool.noConfusion hb | exact absurd (fun e => Bool.noConfusion e) hb | (exfalso; simp only [List.length_cons, List.length_nil] at hb; omega) | (exfalso; simp only [Int.toNat_natCast, Int.toNat_one, List.length_take, List.length_cons, List.length_nil] at hb; omega)))) | (refine XLoad.of (by assumption) rfl rfl (by omega) (by omega) rfl ?_) | (refine New.mk ?_; intro b hb) | (refine New2.mk ?_; intro b c hb hbc) | (refine NewO.mk ?_; intro b c hb hbc) | (refine SameR.same ?_) | (refine Two.mk ?_ ?_) | (refine Tri.mk ?_ ?_ ?_) | (refine ed_eql ?_) | (refine ed_neq ?_) | (refine drawn tysOk mixed (by kernel_rfl) ?_) | fail))); all_goals (try (conv => whnf)))
  · exact ⟨fun h' hs => ⟨bool_no (fun e => by subst e; omega), hs.grows⟩⟩
  refine loop_rule tysOk [5] (fun i : Int => [(5, .val (.int .i64 i))]) (fun _ => []) (fun μ i => 0 ≤ i ∧ i + μ = len ∧ (L = L' ↔ L.drop i.toNat = L'.drop i.toNat)) len 0 ?_
  conv => whnf
  refine ⟨?_, trivial, ⟨by omega, by simp, by simp⟩, ?_⟩
  · ((repeat (refine ⟨rfl, ?_⟩)); trivial)
  rintro μ i ⟨h0, h1, h2⟩
  dsimp only
  by_cases hi : i < len
  · rw [drop_get ⟨0, 0, []⟩ L i h0 (by omega), drop_get ⟨0, 0, []⟩ L' i h0 (by omega), List.cons.injEq] at h2
    have q1 := hX.get matR.dflt ⟨0, 0, []⟩ i h0 (by omega)
    have q2 := hX'.get matR.dflt ⟨0, 0, []⟩ i h0 (by omega)
    ((repeat' ((conv => whnf); (first | (refine Ar.fit (by first | omega | (simp only [lo, hi]; omega)) ?_) | (refine VC.mk (by (first | omega | rfl | assumption | exact Sl.plain (by assumption) (by omega) | (and_intros <;> first | omega | rfl | assumption | (simp only [List.length_set]; omega) | (simp only [List.length_append, List.length_take, List.length_replicate, List.length_cons, List.length_nil]; omega) | (simp only [ByteArray.size_extract, ByteArray.size_append]; omega) | (simp only [List.length_cons, List.length_nil]; omega) | (simp only [Int.toNat_natCast, Int.toNat_one, List.length_take, List.length_cons, List.length_nil] at *; omega)))) ?_) | (refine Br.mk ?_ ?_ <;> intro hb <;> (try (first | (exfalso; omega) | exact absurd rfl hb | exact Bool.noConfusion hb | exact absurd (fun e => Bool.noConfusion e) hb | (exfalso; simp only [List.length_cons, List.length_nil] at hb; omega) | (exfalso; simp only [Int.toNat_natCast, Int.toNat_one, List.length_take, List.length_cons, List.length_nil] at hb; omega)))) | (refine XLoad.of (by assumption) rfl rfl (by omega) (by omega) rfl ?_) | (refine New.mk ?_; intro b hb) | (refine New2.mk ?_; intro b c hb hbc) | (refine NewO.mk ?_; intro b c hb hbc) | (refine SameR.same ?_) | (refine Two.mk ?_ ?_) | (refine Tri.mk ?_ ?_ ?_) | (refine ed_eql ?_) | (refine ed_neq ?_) | (refine drawn tysOk mixed (by kernel_rfl) ?_) | (apply CallQ.pure; (case hh => (intro h1 hs; exact samematch_any _ _ _ _ h1 (q1.grows hs.grows) (q2.grows hs.grows)))) | fail))); all_goals (try (conv => whnf)))
    · refine ⟨fun h' hs => ⟨bool_no (fun e => ?_), hs.grows⟩⟩
      have := (h2.1 e).1
      simp_all
    · refine ⟨μ - 1, i + 1, ⟨by omega, by omega, h2.trans ⟨fun h => h.2, fun h => ⟨?_, h⟩⟩⟩, by omega, ?_, rfl, rfl, trivial⟩
      · simpa using hb
      · ((repeat (refine ⟨rfl, ?_⟩)); trivial)
  · rw [drop_all L i (by omega), drop_all L' i (by omega)] at h2
    ((repeat' ((conv => whnf); (first | (refine Ar.fit (by first | omega | (simp only [lo, hi]; omega)) ?_) | (refine VC.mk (by (first | omega | rfl | assumption | exact Sl.plain (by assumption) (by omega) | (and_intros <;> first | omega | rfl | assumption | (simp only [List.length_set]; omega) | (simp only [List.length_append, List.length_take, List.length_replicate, List.length_cons, List.length_nil]; omega) | (simp only [ByteArray.size_extract, ByteArray.size_append]; omega) | (simp only [List.length_cons, List.length_nil]; omega) | (simp only [Int.toNat_natCast, Int.toNat_one, List.length_take, List.length_cons, List.length_nil] at *; omega)))) ?_) | (refine Br.mk ?_ ?_ <;> intro hb <;> (try (first | (exfalso; omega) | exact absurd rfl hb | exact Bool.noConfusion hb | exact absurd (fun e => Bool.noConfusion e) hb | (exfalso; simp only [List.length_cons, List.length_nil] at hb; omega) | (exfalso; simp only [Int.toNat_natCast, Int.toNat_one, List.length_take, List.length_cons, List.length_nil] at hb; omega)))) | (refine XLoad.of (by assumption) rfl rfl (by omega) (by omega) rfl ?_) | (refine New.mk ?_; intro b hb) | (refine New2.mk ?_; intro b c hb hbc) | (refine NewO.mk ?_; intro b c hb hbc) | (refine SameR.same ?_) | (refine Two.mk ?_ ?_) | (refine Tri.mk ?_ ?_ ?_) | (refine ed_eql ?_) | (refine ed_neq ?_) | (refine drawn tysOk mixed (by kernel_rfl) ?_) | fail))); all_goals (try (conv => whnf)))
    exact ⟨fun h' hs => ⟨bool_yes (h2.2 rfl), hs.grows⟩⟩
set_option maxRecDepth 10000 in
theorem great_any (A A' : Option Addr) (len len' cap cap' : Nat) (h : Heap) :
    CallsH Try.prog 8 #[.slice A len cap, .slice A' len' cap'] h fun v h' => v = denC (.prop (300 < len ∨ 300 < len')) ∧ Grows h h' := by
  refine enter (rep := rep) (m := 5) (ex := []) (cu := []) tysOk Try.func8 rfl (by decide) (rs := [.tmp 4]) rfl rfl [.val (.slice A len cap), .val (.slice A' len' cap')] rfl ?_
  ((repeat' ((conv => whnf); (first | (refine Ar.fit (by first | omega | (simp only [lo, hi]; omega)) ?_) | (refine VC.mk (by (first | omega | rfl | assumption | exact Sl.plain (by assumption) (by omega) | (and_intros <;> first | omega | rfl | assumption | (simp only [List.length_set]; omega) | (simp only [List.length_append, List.length_take, List.length_replicate, List.length_cons, List.length_nil]; omega) | (simp only [ByteArray.size_extract, ByteArray.size_append]; omega) | (simp only [List.length_cons, List.length_nil]; omega) | (simp only [Int.toNat_natCast, Int.toNat_one, List.length_take, List.length_cons, List.length_nil] at *; omega)))) ?_) | (refine Br.mk ?_ ?_ <;> intro hb <;> (try (first | (exfalso; omega) | exact absurd rfl hb | exact Bool.noConfusion hb | exact absurd (fun e => Bool.noConfusion e) hb | (exfalso; simp only [List.length_cons, List.length_nil] at hb; omega) | (exfalso; simp only [Int.toNat_natCast, Int.toNat_one, List.length_take, List.length_cons, List.length_nil] at hb; omega)))) | (refine XLoad.of (by assumption) rfl rfl (by omega) (by omega) rfl ?_) | (refine New.mk ?_; intro b hb) | (refine New2.mk ?_; intro b c hb hbc) | (refine NewO.mk ?_; intro b c hb hbc) | (refine SameR.same ?_) | (refine Two.mk ?_ ?_) | (refine Tri.mk ?_ ?_ ?_) | (refine ed_eql ?_) | (refine ed_neq ?_) | (refine drawn tysOk mixed (by kernel_rfl) ?_) | fail))); all_goals (try (conv => whnf)))
  · exact ⟨fun h' hs => ⟨bool_yes (by omega), hs.grows⟩⟩
  · exact ⟨fun h' hs => ⟨prop_eq (by omega), hs.grows⟩⟩
end Go.Ex
