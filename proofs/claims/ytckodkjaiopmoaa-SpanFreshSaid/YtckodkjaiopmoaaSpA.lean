/-
  Span: words, and what Check gives.
-/
import Derived.Test.YtckodkjaiopmoaaExJ
import Derived.Test.YtckodkjaiopmoaaEnv
namespace Go.Ex
open Go.Proofs
set_option linter.unusedVariables false

structure Ed where
  f : Int
  t : Int
  s : ByteArray
def unEd : List Value → Option Ed
  | [.int .i64 f, .int .i64 t, .string s] => some ⟨f, t, s⟩
  | _ => none
def edR : Rep Ed where
  dflt := ⟨0, 0, ⟨#[]⟩⟩
  sz := 3
  cells := fun x => [.int .i64 x.f, .int .i64 x.t, .string x.s]
  un := unEd
  len := fun _ => rfl
  un_ok := fun l x h => by
    unfold unEd at h
    split at h
    · cases h; rfl
    · cases h
  one := fun x v h => by
    simp at h
    rcases h with rfl | rfl | rfl <;> rfl
  pos := by decide
def rep : Nat → Option RepS
  | 36 => some ⟨edR⟩
  | 3 => some ⟨intR .i64⟩
  | 5 => some ⟨intR .u8⟩
  | _ => none

/-- Check, from an edit on -/
def chkGo (n : Int) : List Ed → Int → Int
  | [], _ => 0
  | x :: r, e => if x.f < e ∨ x.t < x.f ∨ n < x.t then 13 else chkGo n r x.t
def chk (n : Int) (L : List Ed) : Int := if n < 0 ∨ 65536 < n then 1 else chkGo n L 0

set_option maxRecDepth 10000 in
theorem check_any (A : Option Addr) (len cap : Nat) (L : List Ed) (n : Int) (h : Heap) (hA : Sl edR h A len L) :
    CallsH Try.prog 12 #[.int .i64 n, .slice A len cap] h fun v h' => v = .int .i64 (chk n L) ∧ Grows h h' := by
  refine enter (rep := rep) (m := 6) (ex := [7,14,15,16]) (cu := []) tysOk Try.func12 rfl (by decide) (rs := [.tmp 4]) rfl rfl [.val (.int .i64 n), .val (.slice A len cap)] rfl ?_
  have hlen := hA.small
  ((repeat' ((conv => whnf); (first | (refine Ar.fit (by omega) ?_) | (refine VC.mk (by (first | omega | rfl | assumption | exact Sl.plain (by assumption) (by omega) | (and_intros <;> first | omega | rfl | assumption | (simp only [List.length_set]; omega) | (simp only [ByteArray.size_extract, ByteArray.size_append]; omega) | (simp only [List.length_cons, List.length_nil]; omega) | (simp only [Int.toNat_natCast, Int.toNat_one, List.length_take, List.length_cons, List.length_nil] at *; omega)))) ?_) | (refine Br.mk ?_ ?_ <;> intro hb <;> (try (first | (exfalso; omega) | exact absurd rfl hb | exact Bool.noConfusion hb | exact absurd (fun e => Bool.noConfusion e) hb | (exfalso; simp only [List.length_cons, List.length_nil] at hb; omega) | (exfalso; simp only [Int.toNat_natCast, Int.toNat_one, List.length_take, List.length_cons, List.length_nil] at hb; omega)))) | (refine XLoad.of (by assumption) rfl rfl (by omega) (by omega) rfl ?_) | (refine New.mk ?_; intro b hb) | (refine New2.mk ?_; intro b c hb hbc) | (refine SameR.same ?_) | (refine Two.mk ?_ ?_) | (refine ed_eql ?_) | (refine ed_neq ?_) | (refine drawn tysOk mixed (by kernel_rfl) ?_) | fail))); all_goals (try (conv => whnf)))
  · exact ⟨fun h' hs => ⟨by simp [den, den1, denC, chk, *], hs.grows⟩⟩
  · exact ⟨fun h' hs => ⟨by simp [den, den1, denC, chk, *], hs.grows⟩⟩
  · obtain ⟨r, hr⟩ : ∃ r, chkGo n L 0 = r := ⟨_, rfl⟩
    have hc : chk n L = r := by unfold chk; rw [if_neg (by omega)]; exact hr
    rw [hc]
    refine loop_rule tysOk [5, 16] (fun x : Int × Int => [(5, .val (.int .i64 x.1)), (16, .val (.int .i64 x.2))]) (fun _ => []) (fun μ x => 0 ≤ x.2 ∧ x.2 + μ = len ∧ chkGo n (L.drop x.2.toNat) x.1 = r) len (0, 0) ?_
    conv => whnf
    refine ⟨?_, trivial, ⟨by omega, by simp, hr⟩, ?_⟩
    · ((repeat (refine ⟨rfl, ?_⟩)); trivial)
    · rintro μ ⟨e, i⟩ ⟨h0, h1, h2⟩
      dsimp only at h0 h1 h2 ⊢
      have hL := hA.len_eq
      by_cases hi : i < len
      · rw [drop_get edR.dflt L i h0 (by omega)] at h2
        simp only [chkGo] at h2
        ((repeat' ((conv => whnf); (first | (refine Ar.fit (by omega) ?_) | (refine VC.mk (by (first | omega | rfl | assumption | exact Sl.plain (by assumption) (by omega) | (and_intros <;> first | omega | rfl | assumption | (simp only [List.length_set]; omega) | (simp only [ByteArray.size_extract, ByteArray.size_append]; omega) | (simp only [List.length_cons, List.length_nil]; omega) | (simp only [Int.toNat_natCast, Int.toNat_one, List.length_take, List.length_cons, List.length_nil] at *; omega)))) ?_) | (refine Br.mk ?_ ?_ <;> intro hb <;> (try (first | (exfalso; omega) | exact absurd rfl hb | exact Bool.noConfusion hb | exact absurd (fun e => Bool.noConfusion e) hb | (exfalso; simp only [List.length_cons, List.length_nil] at hb; omega) | (exfalso; simp only [Int.toNat_natCast, Int.toNat_one, List.length_take, List.length_cons, List.length_nil] at hb; omega)))) | (refine XLoad.of (by assumption) rfl rfl (by omega) (by omega) rfl ?_) | (refine New.mk ?_; intro b hb) | (refine New2.mk ?_; intro b c hb hbc) | (refine SameR.same ?_) | (refine Two.mk ?_ ?_) | (refine ed_eql ?_) | (refine ed_neq ?_) | (refine drawn tysOk mixed (by kernel_rfl) ?_) | fail))); all_goals (try (conv => whnf)))
        · rw [if_pos (by omega)] at h2; exact ⟨fun h' hs => ⟨int_eq h2, hs.grows⟩⟩
        · rw [if_pos (by omega)] at h2; exact ⟨fun h' hs => ⟨int_eq h2, hs.grows⟩⟩
        · rw [if_pos (by omega)] at h2; exact ⟨fun h' hs => ⟨int_eq h2, hs.grows⟩⟩
        · rw [if_neg (by omega)] at h2
          refine ⟨μ - 1, (_, i + 1), ⟨by simp only; omega, by simp only; omega, h2⟩, by omega, ?_, rfl, rfl, trivial⟩
          ((repeat (refine ⟨rfl, ?_⟩)); trivial)
      · rw [drop_all L i (by omega)] at h2
        ((repeat' ((conv => whnf); (first | (refine Ar.fit (by omega) ?_) | (refine VC.mk (by (first | omega | rfl | assumption | exact Sl.plain (by assumption) (by omega) | (and_intros <;> first | omega | rfl | assumption | (simp only [List.length_set]; omega) | (simp only [ByteArray.size_extract, ByteArray.size_append]; omega) | (simp only [List.length_cons, List.length_nil]; omega) | (simp only [Int.toNat_natCast, Int.toNat_one, List.length_take, List.length_cons, List.length_nil] at *; omega)))) ?_) | (refine Br.mk ?_ ?_ <;> intro hb <;> (try (first | (exfalso; omega) | exact absurd rfl hb | exact Bool.noConfusion hb | exact absurd (fun e => Bool.noConfusion e) hb | (exfalso; simp only [List.length_cons, List.length_nil] at hb; omega) | (exfalso; simp only [Int.toNat_natCast, Int.toNat_one, List.length_take, List.length_cons, List.length_nil] at hb; omega)))) | (refine XLoad.of (by assumption) rfl rfl (by omega) (by omega) rfl ?_) | (refine New.mk ?_; intro b hb) | (refine New2.mk ?_; intro b c hb hbc) | (refine SameR.same ?_) | (refine Two.mk ?_ ?_) | (refine ed_eql ?_) | (refine ed_neq ?_) | (refine drawn tysOk mixed (by kernel_rfl) ?_) | fail))); all_goals (try (conv => whnf)))
        exact ⟨fun h' hs => ⟨int_eq h2, hs.grows⟩⟩

theorem sih36 : Try.prog.stoodInHeld 36 = false := by kernel_rfl
theorem egt36 : Try.prog.eqGuardType Try.prog.depth 36 = false := by kernel_rfl
theorem fld36 : Try.prog.fieldsOf 36 = #[{ name := "From", type := 3, offset := 0, embedded := false, tag := "", pkgPath := "", byteOffset := 0 },
        { name := "To", type := 3, offset := 1, embedded := false, tag := "", pkgPath := "", byteOffset := 8 },
        { name := "Text", type := 9, offset := 2, embedded := false, tag := "", pkgPath := "", byteOffset := 16 }] := by kernel_rfl
theorem eq36 (f1 t1 f2 t2 : Int) (s1 s2 : ByteArray) (w : World) : (Op.equalIn 10000 36 (.agg #[.int .i64 f1, .int .i64 t1, .string s1]) (.agg #[.int .i64 f2, .int .i64 t2, .string s2])).run Try.prog w
   = .ok (@decide (f1 = f2 ∧ t1 = t2 ∧ s1 = s2) (Classical.propDecidable _)) w := by
  have h1 : Try.prog.underlying 36 = some (.struct (Try.prog.fieldsOf 36)) := by rw [fld36]; exact Try.underlying36
  have h3 := Try.underlying3
  have h9 := Try.underlying9
  have hs : s1 = s2 ↔ s1.toList = s2.toList := by
    constructor
    · rintro rfl; rfl
    · intro h; exact ByteArray.ext (Array.ext' (by rw [← ByteArray.toList_eq, ← ByteArray.toList_eq]; exact h))
  rw [run_equalIn_agg _ _ _ _ _ h1 sih36, fld36, dec_eq]
  simp [Op.eqFields, part, isAgg, underlying, h3, h9, run_equalIn_int, run_equalIn_string, hs]
  by_cases a : f1 = f2 <;> by_cases b : t1 = t2 <;> by_cases c : s1.toList = s2.toList <;> simp [a, b, c]
theorem ed_eql {f1 t1 f2 t2 : Int} {s1 s2 : ByteArray} {κ : KV → Prop} (h : κ (.prop (f1 = f2 ∧ t1 = t2 ∧ s1 = s2))) :
    EqK Try.prog .eql 36 (.agg [.val (.int .i64 f1), .val (.int .i64 t1), .val (.string s1)]) (.agg [.val (.int .i64 f2), .val (.int .i64 t2), .val (.string s2)]) κ := ⟨_, fun u v w => by
  show (do eqGuard .eql 36 u v (.agg #[.int .i64 f1, .int .i64 t1, .string s1]) (.agg #[.int .i64 f2, .int .i64 t2, .string s2]); binOp .eql 36 (.agg #[.int .i64 f1, .int .i64 t1, .string s1]) (.agg #[.int .i64 f2, .int .i64 t2, .string s2]) : Sem Value).run Try.prog w = _
  simp only [Sem.run_bind, run_eqGuard_agg _ _ _ _ _ _ _ egt36, Result.andThen_ok, run_eql_struct, eq36]
  rfl, h⟩
theorem ed_neq {f1 t1 f2 t2 : Int} {s1 s2 : ByteArray} {κ : KV → Prop} (h : κ (.prop (¬ (f1 = f2 ∧ t1 = t2 ∧ s1 = s2)))) :
    EqK Try.prog .neq 36 (.agg [.val (.int .i64 f1), .val (.int .i64 t1), .val (.string s1)]) (.agg [.val (.int .i64 f2), .val (.int .i64 t2), .val (.string s2)]) κ := ⟨_, fun u v w => by
  show (do eqGuard .neq 36 u v (.agg #[.int .i64 f1, .int .i64 t1, .string s1]) (.agg #[.int .i64 f2, .int .i64 t2, .string s2]); binOp .neq 36 (.agg #[.int .i64 f1, .int .i64 t1, .string s1]) (.agg #[.int .i64 f2, .int .i64 t2, .string s2]) : Sem Value).run Try.prog w = _
  simp only [Sem.run_bind, run_eqGuard_agg _ _ _ _ _ _ _ egt36, Result.andThen_ok, run_neq_struct, eq36]
  simp [denC, dec_eq], h⟩
end Go.Ex
