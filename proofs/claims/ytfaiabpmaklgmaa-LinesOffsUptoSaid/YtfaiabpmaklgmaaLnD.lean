/-
  Lines: line and column of a place, and back.
-/
import Derived.Test.YtfaiabpmaklgmaaLnC
namespace Go.Ex
open Go.Proofs
set_option linter.unusedVariables false
set_option linter.unusedSimpArgs false
attribute [local irreducible] CallsH

theorem sih33 : Try.prog.stoodInHeld 33 = false := by kernel_rfl
theorem egt33 : Try.prog.eqGuardType Try.prog.depth 33 = false := by kernel_rfl
theorem fld33 : Try.prog.fieldsOf 33 = #[{ name := "Line", type := 3, offset := 0, embedded := false, tag := "", pkgPath := "", byteOffset := 0 },
        { name := "Col", type := 3, offset := 1, embedded := false, tag := "", pkgPath := "", byteOffset := 8 }] := by kernel_rfl
theorem eq33 (f1 t1 f2 t2 : Int) (w : World) : (Op.equalIn 10000 33 (.agg #[.int .i64 f1, .int .i64 t1]) (.agg #[.int .i64 f2, .int .i64 t2])).run Try.prog w
   = .ok (@decide (f1 = f2 ∧ t1 = t2) (Classical.propDecidable _)) w := by
  have h1 : Try.prog.underlying 33 = some (.struct (Try.prog.fieldsOf 33)) := by rw [fld33]; exact Try.underlying33
  have h3 := Try.underlying3
  rw [run_equalIn_agg _ _ _ _ _ h1 sih33, fld33, dec_eq]
  simp [Op.eqFields, part, isAgg, underlying, h3, run_equalIn_int]
  by_cases a : f1 = f2 <;> by_cases b : t1 = t2 <;> simp [a, b]
theorem ed_eql {f1 t1 f2 t2 : Int} {κ : KV → Prop} (h : κ (.prop (f1 = f2 ∧ t1 = t2))) :
    EqK Try.prog .eql 33 (.agg [.val (.int .i64 f1), .val (.int .i64 t1)]) (.agg [.val (.int .i64 f2), .val (.int .i64 t2)]) κ := ⟨_, fun u v w => by
  show (do eqGuard .eql 33 u v (.agg #[.int .i64 f1, .int .i64 t1]) (.agg #[.int .i64 f2, .int .i64 t2]); binOp .eql 33 (.agg #[.int .i64 f1, .int .i64 t1]) (.agg #[.int .i64 f2, .int .i64 t2]) : Sem Value).run Try.prog w = _
  simp only [Sem.run_bind, run_eqGuard_agg _ _ _ _ _ _ _ egt33, Result.andThen_ok, run_eql_struct, eq33]
  rfl, h⟩
theorem bool_eql {p q : Prop} {κ : KV → Prop} (h : κ (.prop (p ↔ q))) : EqK Try.prog .eql 4 (.prop p) (.prop q) κ := ⟨_, fun u v w => by
  by_cases hp : p <;> by_cases hq : q <;> simp [den, den1, denC, eqGuard, binOp, hp, hq, run_equal_bool _ _ _ _ Try.underlying4], h⟩
noncomputable def atL (s : ByteArray) (off : Int) : Int := if 0 ≤ off ∧ off ≤ s.size then lineN s off else 0
noncomputable def atC (s : ByteArray) (off : Int) : Int := if 0 ≤ off ∧ off ≤ s.size then off - frB s (lineN s off) + 1 else 0
def atE (s : ByteArray) (off : Int) : Int := if 0 ≤ off ∧ off ≤ s.size then 0 else 1
theorem agg2_eq {a b c d : Int} (h1 : a = c) (h2 : b = d) : Value.agg #[.int .i64 a, .int .i64 b] = .agg #[.int .i64 c, .int .i64 d] := by rw [h1, h2]
set_option maxHeartbeats 1000000 in
set_option maxRecDepth 10000 in
theorem rat_any (s : ByteArray) (off : Int) (h : Heap) (hs : s.size ≤ 1048576) : CallsH Try.prog 18 #[.string s, .int .i64 off] h fun v h' => v = .tuple #[.agg #[.int .i64 (atL s off), .int .i64 (atC s off)], .int .i64 (atE s off)] ∧ Grows h h' := by
  refine enter (rep := rep) (m := 8) (ex := []) (cu := []) tysOk Try.func18 rfl (by decide) (rs := [.cell 4 33, .tmp 5]) rfl rfl [.val (.string s), .val (.int .i64 off)] rfl ?_
  have hll := starts_len s
  have hLd : LL s = ((startsF s).length : Int) := rfl
  by_cases ho : 0 ≤ off ∧ off ≤ s.size
  · have e3 : atE s off = 0 := by rw [atE, if_pos ho]
    ((repeat' ((conv => whnf); (first | (refine Ar.fit (by first | omega | (simp only [lo, hi]; omega)) ?_) | (refine VC.mk (by (first | omega | rfl | assumption | exact Sl.plain (by assumption) (by omega) | (and_intros <;> first | omega | rfl | assumption | (simp only [List.length_set]; omega) | (simp only [List.length_append, List.length_take, List.length_replicate, List.length_cons, List.length_nil]; omega) | (simp only [ByteArray.size_extract, ByteArray.size_append]; omega) | (simp only [List.length_cons, List.length_nil]; omega) | (simp only [Int.toNat_natCast, Int.toNat_one, List.length_take, List.length_cons, List.length_nil] at *; omega)))) ?_) | (refine Br.mk ?_ ?_ <;> intro hb <;> (try (first | (exfalso; omega) | exact absurd rfl hb | exact Bool.noConfusion hb | exact absurd (fun e => Bool.noConfusion e) hb | (exfalso; simp only [List.length_cons, List.length_nil] at hb; omega) | (exfalso; simp only [Int.toNat_natCast, Int.toNat_one, List.length_take, List.length_cons, List.length_nil] at hb; omega)))) | (refine XLoad.of (by assumption) rfl rfl (by omega) (by omega) rfl ?_) | (refine New.mk ?_; intro b hb) | (refine New2.mk ?_; intro b c hb hbc) | (refine SameR.same ?_) | (refine Two.mk ?_ ?_) | (refine Tri.mk ?_ ?_ ?_) | (refine ed_eql ?_) | (refine ed_neq ?_) | (refine drawn tysOk mixed (by kernel_rfl) ?_) | fail))); all_goals (try (conv => whnf)))
    rename_i b4 hb4 _ _
    refine loop_rule tysOk [7] (fun x : Int × Int × Int => [(7, .val (.int .i64 x.1))]) (fun x => [(6, b, .box 33 [.val (.int .i64 x.2.1), .val (.int .i64 x.2.2)]), (4, b4, .box 33 [.val (.int .i64 0), .val (.int .i64 0)])]) (fun μ x => 0 ≤ x.1 ∧ x.1 ≤ off ∧ μ = (off - x.1).toNat ∧ IsLine s x.1 x.2.1 ∧ x.2.2 = x.1 - frB s x.2.1 + 1) off.toNat (0, 1, 1) ?_
    conv => whnf
    refine ⟨by ((repeat (refine ⟨rfl, ?_⟩)); trivial), ⟨rfl, rfl, rfl, rfl, trivial⟩, ⟨by simp, ho.1, by simp, ⟨by simp, by simp only [LL, startsF, List.length_cons]; omega, by rw [fr_first]; simp, ?_⟩, rfl⟩, ?_⟩
    · have := seg_s s 1 (by omega) (by simp only [LL, startsF, List.length_cons]; omega)
      rw [fr_first] at this
      exact this.2.1
    rintro μ ⟨i, l, c⟩ ⟨a0, a1, a2, a3, a4⟩
    dsimp only at a0 a1 a2 a3 a4 ⊢
    have hsg := seg_s s l a3.lo a3.hi
    have hge := a3.ge
    have hle := a3.le
    have hlo := a3.lo
    have hhi := a3.hi
    by_cases hi : i < off
    · by_cases hit : i < toB s l
      · have hne := hsg.2.2.2.1 i hge hit
        ((repeat' ((conv => whnf); (first | (refine Ar.fit (by first | omega | (simp only [lo, hi]; omega)) ?_) | (refine VC.mk (by (first | omega | rfl | assumption | exact Sl.plain (by assumption) (by omega) | (and_intros <;> first | omega | rfl | assumption | (simp only [List.length_set]; omega) | (simp only [List.length_append, List.length_take, List.length_replicate, List.length_cons, List.length_nil]; omega) | (simp only [ByteArray.size_extract, ByteArray.size_append]; omega) | (simp only [List.length_cons, List.length_nil]; omega) | (simp only [Int.toNat_natCast, Int.toNat_one, List.length_take, List.length_cons, List.length_nil] at *; omega)))) ?_) | (refine Br.mk ?_ ?_ <;> intro hb <;> (try (first | (exfalso; omega) | exact absurd rfl hb | exact Bool.noConfusion hb | exact absurd (fun e => Bool.noConfusion e) hb | (exfalso; simp only [List.length_cons, List.length_nil] at hb; omega) | (exfalso; simp only [Int.toNat_natCast, Int.toNat_one, List.length_take, List.length_cons, List.length_nil] at hb; omega)))) | (refine XLoad.of (by assumption) rfl rfl (by omega) (by omega) rfl ?_) | (refine New.mk ?_; intro b hb) | (refine New2.mk ?_; intro b c hb hbc) | (refine SameR.same ?_) | (refine Two.mk ?_ ?_) | (refine Tri.mk ?_ ?_ ?_) | (refine ed_eql ?_) | (refine ed_neq ?_) | (refine drawn tysOk mixed (by kernel_rfl) ?_) | fail))); all_goals (try (conv => whnf)))
        refine ⟨μ - 1, ⟨i + 1, l, c + 1⟩, ⟨by dsimp only; omega, by dsimp only; omega, by dsimp only; omega, ⟨hlo, hhi, by dsimp only; omega, by dsimp only; omega⟩, by dsimp only; omega⟩, by omega, by ((repeat (refine ⟨rfl, ?_⟩)); trivial), rfl, rfl, ⟨rfl, rfl, rfl, rfl, trivial⟩⟩
      · have hlt : l < LL s := by
          rcases Int.lt_or_le l (LL s) with h | h
          · exact h
          · exfalso
            have : toB s l = s.size := by rw [toB, if_pos (by omega)]
            omega
        have hten := (hsg.2.2.2.2 hlt).2
        rw [show toB s l = i by omega] at hten
        have hnx := fr_next s l hlo hlt
        have hsg2 := seg_s s (l + 1) (by omega) (by omega)
        ((repeat' ((conv => whnf); (first | (refine Ar.fit (by first | omega | (simp only [lo, hi]; omega)) ?_) | (refine VC.mk (by (first | omega | rfl | assumption | exact Sl.plain (by assumption) (by omega) | (and_intros <;> first | omega | rfl | assumption | (simp only [List.length_set]; omega) | (simp only [List.length_append, List.length_take, List.length_replicate, List.length_cons, List.length_nil]; omega) | (simp only [ByteArray.size_extract, ByteArray.size_append]; omega) | (simp only [List.length_cons, List.length_nil]; omega) | (simp only [Int.toNat_natCast, Int.toNat_one, List.length_take, List.length_cons, List.length_nil] at *; omega)))) ?_) | (refine Br.mk ?_ ?_ <;> intro hb <;> (try (first | (exfalso; omega) | exact absurd rfl hb | exact Bool.noConfusion hb | exact absurd (fun e => Bool.noConfusion e) hb | (exfalso; simp only [List.length_cons, List.length_nil] at hb; omega) | (exfalso; simp only [Int.toNat_natCast, Int.toNat_one, List.length_take, List.length_cons, List.length_nil] at hb; omega)))) | (refine XLoad.of (by assumption) rfl rfl (by omega) (by omega) rfl ?_) | (refine New.mk ?_; intro b hb) | (refine New2.mk ?_; intro b c hb hbc) | (refine SameR.same ?_) | (refine Two.mk ?_ ?_) | (refine Tri.mk ?_ ?_ ?_) | (refine ed_eql ?_) | (refine ed_neq ?_) | (refine drawn tysOk mixed (by kernel_rfl) ?_) | fail))); all_goals (try (conv => whnf)))
        refine ⟨μ - 1, ⟨i + 1, l + 1, 1⟩, ⟨by dsimp only; omega, by dsimp only; omega, by dsimp only; omega, ⟨by dsimp only; omega, by dsimp only; omega, by dsimp only; omega, by dsimp only; omega⟩, by dsimp only; omega⟩, by omega, by ((repeat (refine ⟨rfl, ?_⟩)); trivial), rfl, rfl, ⟨rfl, rfl, rfl, rfl, trivial⟩⟩
    · have hio : i = off := by omega
      subst hio
      have e1 : atL s i = l := by rw [atL, if_pos ho, lineN_eq a3]
      have e2 : atC s i = c := by rw [atC, if_pos ho, lineN_eq a3]; omega
      rw [e1, e2, e3]
      ((repeat' ((conv => whnf); (first | (refine Ar.fit (by first | omega | (simp only [lo, hi]; omega)) ?_) | (refine VC.mk (by (first | omega | rfl | assumption | exact Sl.plain (by assumption) (by omega) | (and_intros <;> first | omega | rfl | assumption | (simp only [List.length_set]; omega) | (simp only [List.length_append, List.length_take, List.length_replicate, List.length_cons, List.length_nil]; omega) | (simp only [ByteArray.size_extract, ByteArray.size_append]; omega) | (simp only [List.length_cons, List.length_nil]; omega) | (simp only [Int.toNat_natCast, Int.toNat_one, List.length_take, List.length_cons, List.length_nil] at *; omega)))) ?_) | (refine Br.mk ?_ ?_ <;> intro hb <;> (try (first | (exfalso; omega) | exact absurd rfl hb | exact Bool.noConfusion hb | exact absurd (fun e => Bool.noConfusion e) hb | (exfalso; simp only [List.length_cons, List.length_nil] at hb; omega) | (exfalso; simp only [Int.toNat_natCast, Int.toNat_one, List.length_take, List.length_cons, List.length_nil] at hb; omega)))) | (refine XLoad.of (by assumption) rfl rfl (by omega) (by omega) rfl ?_) | (refine New.mk ?_; intro b hb) | (refine New2.mk ?_; intro b c hb hbc) | (refine SameR.same ?_) | (refine Two.mk ?_ ?_) | (refine Tri.mk ?_ ?_ ?_) | (refine ed_eql ?_) | (refine ed_neq ?_) | (refine drawn tysOk mixed (by kernel_rfl) ?_) | fail))); all_goals (try (conv => whnf)))
      exact ⟨fun h' hs => ⟨rfl, hs.grows⟩⟩
  · have e1 : atL s off = 0 := by rw [atL, if_neg ho]
    have e2 : atC s off = 0 := by rw [atC, if_neg ho]
    have e3 : atE s off = 1 := by rw [atE, if_neg ho]
    rw [e1, e2, e3]
    ((repeat' ((conv => whnf); (first | (refine Ar.fit (by first | omega | (simp only [lo, hi]; omega)) ?_) | (refine VC.mk (by (first | omega | rfl | assumption | exact Sl.plain (by assumption) (by omega) | (and_intros <;> first | omega | rfl | assumption | (simp only [List.length_set]; omega) | (simp only [List.length_append, List.length_take, List.length_replicate, List.length_cons, List.length_nil]; omega) | (simp only [ByteArray.size_extract, ByteArray.size_append]; omega) | (simp only [List.length_cons, List.length_nil]; omega) | (simp only [Int.toNat_natCast, Int.toNat_one, List.length_take, List.length_cons, List.length_nil] at *; omega)))) ?_) | (refine Br.mk ?_ ?_ <;> intro hb <;> (try (first | (exfalso; omega) | exact absurd rfl hb | exact Bool.noConfusion hb | exact absurd (fun e => Bool.noConfusion e) hb | (exfalso; simp only [List.length_cons, List.length_nil] at hb; omega) | (exfalso; simp only [Int.toNat_natCast, Int.toNat_one, List.length_take, List.length_cons, List.length_nil] at hb; omega)))) | (refine XLoad.of (by assumption) rfl rfl (by omega) (by omega) rfl ?_) | (refine New.mk ?_; intro b hb) | (refine New2.mk ?_; intro b c hb hbc) | (refine SameR.same ?_) | (refine Two.mk ?_ ?_) | (refine Tri.mk ?_ ?_ ?_) | (refine ed_eql ?_) | (refine ed_neq ?_) | (refine drawn tysOk mixed (by kernel_rfl) ?_) | fail))); all_goals (try (conv => whnf)))
    all_goals exact ⟨fun h' hs => ⟨rfl, hs.grows⟩⟩
set_option maxHeartbeats 4000000 in
set_option maxRecDepth 10000 in
theorem at_any (s : ByteArray) (off : Int) (h : Heap) (hs : s.size ≤ 1048576) : CallsH Try.prog 17 #[.string s, .int .i64 off] h fun v h' => v = .tuple #[.agg #[.int .i64 (atL s off), .int .i64 (atC s off)], .int .i64 (atE s off)] ∧ Grows h h' := by
  refine enter (rep := rep) (m := 8) (ex := []) (cu := []) tysOk Try.func17 rfl (by decide) (rs := [.cell 4 33, .tmp 5]) rfl rfl [.val (.string s), .val (.int .i64 off)] rfl ?_
  have hll := starts_len s
  have hLd : LL s = ((startsF s).length : Int) := rfl
  by_cases ho : 0 ≤ off ∧ off ≤ s.size
  · have e3 : atE s off = 0 := by rw [atE, if_pos ho]
    ((repeat' ((conv => whnf); (first | (refine Ar.fit (by first | omega | (simp only [lo, hi]; omega)) ?_) | (refine VC.mk (by (first | omega | rfl | assumption | exact Sl.plain (by assumption) (by omega) | (and_intros <;> first | omega | rfl | assumption | (simp only [List.length_set]; omega) | (simp only [List.length_append, List.length_take, List.length_replicate, List.length_cons, List.length_nil]; omega) | (simp only [ByteArray.size_extract, ByteArray.size_append]; omega) | (simp only [List.length_cons, List.length_nil]; omega) | (simp only [Int.toNat_natCast, Int.toNat_one, List.length_take, List.length_cons, List.length_nil] at *; omega)))) ?_) | (refine Br.mk ?_ ?_ <;> intro hb <;> (try (first | (exfalso; omega) | exact absurd rfl hb | exact Bool.noConfusion hb | exact absurd (fun e => Bool.noConfusion e) hb | (exfalso; simp only [List.length_cons, List.length_nil] at hb; omega) | (exfalso; simp only [Int.toNat_natCast, Int.toNat_one, List.length_take, List.length_cons, List.length_nil] at hb; omega)))) | (refine XLoad.of (by assumption) rfl rfl (by omega) (by omega) rfl ?_) | (refine New.mk ?_; intro b hb) | (refine New2.mk ?_; intro b c hb hbc) | (refine SameR.same ?_) | (refine Two.mk ?_ ?_) | (refine Tri.mk ?_ ?_ ?_) | (refine ed_eql ?_) | (refine ed_neq ?_) | (refine drawn tysOk mixed (by kernel_rfl) ?_) | fail))); all_goals (try (conv => whnf)))
    refine CallK.fresh (R := intR .i64) (T := 3) (L := startsF s) 101 (fun v => v) (fun kv => kv) rfl (fun _ _ _ => rfl) (fun h1 hs1 => (starts_any s h1 hs).mono fun v h' ⟨a, b⟩ => ⟨v, rfl, a, b⟩) (fun e => by cases e) (fun bl cl hbl hcl => ?_)
    ((repeat' ((conv => whnf); (first | (refine Ar.fit (by first | omega | (simp only [lo, hi]; omega)) ?_) | (refine VC.mk (by (first | omega | rfl | assumption | exact Sl.plain (by assumption) (by omega) | (and_intros <;> first | omega | rfl | assumption | (simp only [List.length_set]; omega) | (simp only [List.length_append, List.length_take, List.length_replicate, List.length_cons, List.length_nil]; omega) | (simp only [ByteArray.size_extract, ByteArray.size_append]; omega) | (simp only [List.length_cons, List.length_nil]; omega) | (simp only [Int.toNat_natCast, Int.toNat_one, List.length_take, List.length_cons, List.length_nil] at *; omega)))) ?_) | (refine Br.mk ?_ ?_ <;> intro hb <;> (try (first | (exfalso; omega) | exact absurd rfl hb | exact Bool.noConfusion hb | exact absurd (fun e => Bool.noConfusion e) hb | (exfalso; simp only [List.length_cons, List.length_nil] at hb; omega) | (exfalso; simp only [Int.toNat_natCast, Int.toNat_one, List.length_take, List.length_cons, List.length_nil] at hb; omega)))) | (refine XLoad.of (by assumption) rfl rfl (by omega) (by omega) rfl ?_) | (refine New.mk ?_; intro b hb) | (refine New2.mk ?_; intro b c hb hbc) | (refine SameR.same ?_) | (refine Two.mk ?_ ?_) | (refine Tri.mk ?_ ?_ ?_) | (refine ed_eql ?_) | (refine ed_neq ?_) | (refine drawn tysOk mixed (by kernel_rfl) ?_) | (refine CallK.inline (rep := rep) tysOk Try.func23 rfl (by decide) (rs := [.tmp 4]) rfl 4 [5,6,7] [] rfl rfl rfl ?_) | fail))); all_goals (try (conv => whnf)))
    rename_i b3 hb3 b4 hb4 _ _
    refine loop_rule tysOk [5, 6] (fun x : Int × Int => [(5, .val (.int .i64 x.1)), (6, .val (.int .i64 x.2))]) (fun x => [(6, b, .box 22 [.osl 101 bl (startsF s).length cl]), (101, bl, .arr 3 (intR .i64) (startsF s) cl), (4, b4, .box 33 [.val (.int .i64 0), .val (.int .i64 0)]), (3, b3, .box 3 [.val (.int .i64 off)])]) (fun μ x => 0 ≤ x.1 ∧ x.1 ≤ x.2 ∧ x.2 ≤ LL s ∧ μ = (x.2 - x.1).toNat ∧ (0 < x.1 → getI 0 (startsF s) (x.1 - 1) ≤ off) ∧ (x.2 < LL s → off < getI 0 (startsF s) x.2)) (startsF s).length (0, (startsF s).length) ?_
    conv => whnf
    refine ⟨by ((repeat (refine ⟨rfl, ?_⟩)); trivial), ⟨rfl, rfl, rfl, rfl, rfl, rfl, rfl, rfl, trivial⟩, ⟨by simp, by dsimp only; omega, by dsimp only; omega, by dsimp only; omega, fun h => by dsimp only at h; omega, fun h => by dsimp only at h; omega⟩, ?_⟩
    rintro μ ⟨i, j⟩ ⟨a0, a1, a2, a3, a4, a5⟩
    dsimp only at a0 a1 a2 a3 a4 a5 ⊢
    by_cases hij : i < j
    · obtain ⟨q, hq⟩ : ∃ q, q = (i + j) / 2 := ⟨_, rfl⟩
      have z1 : getI (intR .i64).dflt (startsF s) ((i + j) / 2) = getI 0 (startsF s) q := by rw [hq]; rfl
      ((repeat' ((conv => whnf); (first | (refine Ar.fit (by first | omega | (simp only [lo, hi]; omega)) ?_) | (refine VC.mk (by (first | omega | rfl | assumption | exact Sl.plain (by assumption) (by omega) | (and_intros <;> first | omega | rfl | assumption | (simp only [List.length_set]; omega) | (simp only [List.length_append, List.length_take, List.length_replicate, List.length_cons, List.length_nil]; omega) | (simp only [ByteArray.size_extract, ByteArray.size_append]; omega) | (simp only [List.length_cons, List.length_nil]; omega) | (simp only [Int.toNat_natCast, Int.toNat_one, List.length_take, List.length_cons, List.length_nil] at *; omega)))) ?_) | (refine Br.mk ?_ ?_ <;> intro hb <;> (try (first | (exfalso; omega) | exact absurd rfl hb | exact Bool.noConfusion hb | exact absurd (fun e => Bool.noConfusion e) hb | (exfalso; simp only [List.length_cons, List.length_nil] at hb; omega) | (exfalso; simp only [Int.toNat_natCast, Int.toNat_one, List.length_take, List.length_cons, List.length_nil] at hb; omega)))) | (refine XLoad.of (by assumption) rfl rfl (by omega) (by omega) rfl ?_) | (refine New.mk ?_; intro b hb) | (refine New2.mk ?_; intro b c hb hbc) | (refine SameR.same ?_) | (refine Two.mk ?_ ?_) | (refine Tri.mk ?_ ?_ ?_) | (refine ed_eql ?_) | (refine ed_neq ?_) | (refine drawn tysOk mixed (by kernel_rfl) ?_) | (refine CallK.inline (rep := rep) tysOk Try.func24 rfl (by decide) (rs := [.tmp 4]) rfl 4 [] [] rfl rfl rfl ?_) | fail))); all_goals (try (conv => whnf)))
      · refine ⟨(j - (q + 1)).toNat, ⟨(i + j) / 2 + 1, j⟩, ⟨by dsimp only; omega, by dsimp only; omega, by dsimp only; omega, by dsimp only; omega, fun _ => ?_, a5⟩, by omega, by ((repeat (refine ⟨rfl, ?_⟩)); trivial), rfl, rfl, ⟨rfl, rfl, rfl, rfl, rfl, rfl, rfl, rfl, trivial⟩⟩
        dsimp only
        rw [show (i + j) / 2 + 1 - 1 = q by omega]; omega
      · refine ⟨(q - i).toNat, ⟨i, (i + j) / 2⟩, ⟨a0, by dsimp only; omega, by dsimp only; omega, by dsimp only; omega, a4, fun _ => ?_⟩, by omega, by ((repeat (refine ⟨rfl, ?_⟩)); trivial), rfl, rfl, ⟨rfl, rfl, rfl, rfl, rfl, rfl, rfl, rfl, trivial⟩⟩
        dsimp only
        rw [← hq]; omega
    · have hij : i = j := by omega
      subst hij
      have h0 : getI 0 (startsF s) 0 = 0 := rfl
      have hpos : 0 < i := by
        rcases Int.lt_or_le 0 i with h | h
        · exact h
        · exfalso
          have hi0 : i = 0 := by omega
          subst hi0
          have := a5 (by simp only [LL, startsF, List.length_cons]; omega)
          omega
      have hLin : IsLine s off i := ⟨by omega, a2, a4 hpos, by
        rw [toB]
        split
        · exact ho.2
        · have := a5 (by omega); omega⟩
      have e1 : atL s off = i := by rw [atL, if_pos ho, lineN_eq hLin]
      have e2 : atC s off = off - frB s i + 1 := by rw [atC, if_pos ho, lineN_eq hLin]
      have z1 : getI (intR .i64).dflt (startsF s) (i - 1) = frB s i := rfl
      have hsg := seg_s s i hLin.lo hLin.hi
      have hge := hLin.ge
      rw [e1, e2, e3]
      ((repeat' ((conv => whnf); (first | (refine drawnW tysOk mixed (.pull 0 [9, 10, 11] (.pull 3 [4, 5, 6, 7, 8, 9, 10, 11] (.pull 4 [5, 6, 7, 8, 9, 10, 11] (.pull 1 [7, 8, 9, 10, 11] (.pull 2 [5, 6, 7, 8, 9, 10, 11] (.pull 5 [6, 7, 8, 9, 10, 11] (.pull 6 [7, 8, 9, 10, 11] (.pull 7 [8, 9, 10, 11] (.pull 8 [9, 10, 11] (.pull 9 [10, 11] (.one 10 (.pull 11 [] .done)))))))))))) (by kernel_rfl) (by kernel_rfl) ?_) | (refine Ar.fit (by first | omega | (simp only [lo, hi]; omega)) ?_) | (refine VC.mk (by (first | omega | rfl | assumption | exact Sl.plain (by assumption) (by omega) | (and_intros <;> first | omega | rfl | assumption | (simp only [List.length_set]; omega) | (simp only [List.length_append, List.length_take, List.length_replicate, List.length_cons, List.length_nil]; omega) | (simp only [ByteArray.size_extract, ByteArray.size_append]; omega) | (simp only [List.length_cons, List.length_nil]; omega) | (simp only [Int.toNat_natCast, Int.toNat_one, List.length_take, List.length_cons, List.length_nil] at *; omega)))) ?_) | (refine Br.mk ?_ ?_ <;> intro hb <;> (try (first | (exfalso; omega) | exact absurd rfl hb | exact Bool.noConfusion hb | exact absurd (fun e => Bool.noConfusion e) hb | (exfalso; simp only [List.length_cons, List.length_nil] at hb; omega) | (exfalso; simp only [Int.toNat_natCast, Int.toNat_one, List.length_take, List.length_cons, List.length_nil] at hb; omega)))) | (refine XLoad.of (by assumption) rfl rfl (by omega) (by omega) rfl ?_) | (refine New.mk ?_; intro b hb) | (refine New2.mk ?_; intro b c hb hbc) | (refine SameR.same ?_) | (refine Two.mk ?_ ?_) | (refine Tri.mk ?_ ?_ ?_) | (refine ed_eql ?_) | (refine ed_neq ?_) | (refine drawn tysOk mixed (by kernel_rfl) ?_) | fail))); all_goals (try (conv => whnf)))
      all_goals exact ⟨fun h' hs => ⟨rfl, hs.grows⟩⟩
  · have e1 : atL s off = 0 := by rw [atL, if_neg ho]
    have e2 : atC s off = 0 := by rw [atC, if_neg ho]
    have e3 : atE s off = 1 := by rw [atE, if_neg ho]
    rw [e1, e2, e3]
    ((repeat' ((conv => whnf); (first | (refine Ar.fit (by first | omega | (simp only [lo, hi]; omega)) ?_) | (refine VC.mk (by (first | omega | rfl | assumption | exact Sl.plain (by assumption) (by omega) | (and_intros <;> first | omega | rfl | assumption | (simp only [List.length_set]; omega) | (simp only [List.length_append, List.length_take, List.length_replicate, List.length_cons, List.length_nil]; omega) | (simp only [ByteArray.size_extract, ByteArray.size_append]; omega) | (simp only [List.length_cons, List.length_nil]; omega) | (simp only [Int.toNat_natCast, Int.toNat_one, List.length_take, List.length_cons, List.length_nil] at *; omega)))) ?_) | (refine Br.mk ?_ ?_ <;> intro hb <;> (try (first | (exfalso; omega) | exact absurd rfl hb | exact Bool.noConfusion hb | exact absurd (fun e => Bool.noConfusion e) hb | (exfalso; simp only [List.length_cons, List.length_nil] at hb; omega) | (exfalso; simp only [Int.toNat_natCast, Int.toNat_one, List.length_take, List.length_cons, List.length_nil] at hb; omega)))) | (refine XLoad.of (by assumption) rfl rfl (by omega) (by omega) rfl ?_) | (refine New.mk ?_; intro b hb) | (refine New2.mk ?_; intro b c hb hbc) | (refine SameR.same ?_) | (refine Two.mk ?_ ?_) | (refine Tri.mk ?_ ?_ ?_) | (refine ed_eql ?_) | (refine ed_neq ?_) | (refine drawn tysOk mixed (by kernel_rfl) ?_) | fail))); all_goals (try (conv => whnf)))
    all_goals exact ⟨fun h' hs => ⟨rfl, hs.grows⟩⟩
end Go.Ex
