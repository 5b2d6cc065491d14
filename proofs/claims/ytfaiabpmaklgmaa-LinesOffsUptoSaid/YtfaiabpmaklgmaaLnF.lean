/-
  Lines: the document's example, and the laws.
-/
import Derived.Test.YtfaiabpmaklgmaaLnE
namespace Go.Ex
open Go.Proofs
set_option linter.unusedVariables false
set_option linter.unusedSimpArgs false
attribute [local irreducible] CallsH

theorem byl_inj {a b : ByteArray} (h : byl a = byl b) : a = b := by
  refine ByteArray.ext (Array.ext' ?_)
  have : ∀ (x y : List UInt8), x.map (fun b => (b.toNat : Int)) = y.map (fun b => (b.toNat : Int)) → x = y := by
    intro x
    induction x with
    | nil => intro y h; cases y with
      | nil => rfl
      | cons c y => simp at h
    | cons c x ih => intro y h; cases y with
      | nil => simp at h
      | cons d y =>
        simp only [List.map_cons, List.cons.injEq] at h
        have h1 : c = d := UInt8.toNat_inj.1 (by omega)
        rw [h1, ih y h.2]
  exact this _ _ h
theorem byl_extract (s : ByteArray) (i j : Nat) : byl (s.extract i j) = ((byl s).take j).drop i := by
  simp [byl, ByteArray.data_extract, Array.toList_extract, List.extract_eq_take_drop, List.map_take, List.map_drop, List.drop_take]
theorem byl_append (s t : ByteArray) : byl (s ++ t) = byl s ++ byl t := by simp [byl]

def fxS : ByteArray := ⟨#[97, 10, 98, 99, 10]⟩
theorem fx_st : startsF fxS = [0, 2, 5] := by decide
theorem fx_LL : LL fxS = 3 := by simp only [LL, fx_st]; rfl
theorem fx_line : IsLine fxS 5 3 := ⟨by omega, by rw [fx_LL]; omega, by simp only [frB, fx_st]; decide, by simp only [toB]; rw [if_pos fx_LL.symm]; decide⟩
theorem fx_fr3 : frB fxS 3 = 5 := by simp only [frB, fx_st]; rfl
theorem fx_fr2 : frB fxS 2 = 2 := by simp only [frB, fx_st]; rfl
theorem fx_to2 : toB fxS 2 = 4 := by simp only [toB]; rw [if_neg (by rw [fx_LL]; omega), fx_st]; rfl
theorem fx_ok : (0 : Int) ≤ 5 ∧ (5 : Int) ≤ fxS.size := by decide
theorem fx_atL : atL fxS 5 = 3 := by rw [atL, if_pos fx_ok, lineN_eq fx_line]
theorem fx_atC : atC fxS 5 = 1 := by rw [atC, if_pos fx_ok, lineN_eq fx_line, fx_fr3]; rfl
theorem fx_atE : atE fxS 5 = 0 := by rw [atE, if_pos fx_ok]
theorem fx_off : offOk fxS 2 3 := by refine ⟨by rw [fx_LL]; omega, by omega, by rw [fx_fr2, fx_to2]; omega⟩
theorem fx_offV : offV fxS 2 3 = 4 := by rw [offV, if_pos fx_off, fx_fr2]; rfl
theorem fx_offE : offE fxS 2 3 = 0 := by rw [offE, if_pos fx_off]
theorem fx_lnT : lineT fxS 2 = ⟨#[98, 99]⟩ := by rw [lineT, if_pos (by rw [fx_LL]; omega), fx_fr2, fx_to2]; decide
theorem fx_lnE : lineE fxS 2 = 0 := by rw [lineE, if_pos (by rw [fx_LL]; omega)]
set_option maxHeartbeats 1000000 in
set_option maxRecDepth 10000 in
theorem fixed_any (h : Heap) : CallsH Try.prog 11 #[] h fun v h' => v = .bool true ∧ Grows h h' := by
  refine enter (rep := rep) (m := 7) (ex := []) (cu := []) tysOk Try.func11 rfl (by decide) (rs := [.tmp 0]) rfl rfl [] rfl ?_
  have a := fun h => at_any fxS 5 h (by decide)
  have o := fun h => off_any fxS 2 3 h (by decide) (by decide)
  have l := fun h => line_any fxS 2 h (by decide)
  have c := fun h => count_any fxS h (by decide)
  rw [fx_atL, fx_atC, fx_atE] at a
  rw [fx_offV, fx_offE] at o
  rw [fx_lnT, fx_lnE] at l
  rw [show ((startsF fxS).length : Int) = 3 from fx_LL] at c
  ((repeat' ((conv => whnf); (first | (refine Ar.fit (by first | omega | (simp only [lo, hi]; omega)) ?_) | (refine VC.mk (by (first | omega | rfl | assumption | exact Sl.plain (by assumption) (by omega) | (and_intros <;> first | omega | rfl | assumption | (simp only [List.length_set]; omega) | (simp only [List.length_append, List.length_take, List.length_replicate, List.length_cons, List.length_nil]; omega) | (simp only [ByteArray.size_extract, ByteArray.size_append]; omega) | (simp only [List.length_cons, List.length_nil]; omega) | (simp only [Int.toNat_natCast, Int.toNat_one, List.length_take, List.length_cons, List.length_nil] at *; omega)))) ?_) | (refine Br.mk ?_ ?_ <;> intro hb <;> (try (first | (exfalso; omega) | exact absurd rfl hb | exact Bool.noConfusion hb | exact absurd (fun e => Bool.noConfusion e) hb | (exfalso; simp only [List.length_cons, List.length_nil] at hb; omega) | (exfalso; simp only [Int.toNat_natCast, Int.toNat_one, List.length_take, List.length_cons, List.length_nil] at hb; omega)))) | (refine XLoad.of (by assumption) rfl rfl (by omega) (by omega) rfl ?_) | (refine New.mk ?_; intro b hb) | (refine New2.mk ?_; intro b c hb hbc) | (refine SameR.same ?_) | (refine Two.mk ?_ ?_) | (refine Tri.mk ?_ ?_ ?_) | (refine ed_eql ?_) | (refine ed_neq ?_) | (refine drawn tysOk mixed (by kernel_rfl) ?_) | (apply CallK.pure; (case hh => (intro h1 hs; exact a _))) | (apply CallK.pure; (case hh => (intro h1 hs; exact o _))) | (apply CallK.pure; (case hh => (intro h1 hs; exact l _))) | (apply CallK.pure; (case hh => (intro h1 hs; exact c _))) | fail))); all_goals (try (conv => whnf)))
  exact ⟨fun h' hs => ⟨prop_true rfl, hs.grows⟩⟩
set_option maxHeartbeats 1000000 in
set_option maxRecDepth 10000 in
theorem texts_law (s : ByteArray) (n : Int) (h : Heap) (hz : s.size ≤ 1048576) : CallsH Try.prog 4 #[.string s, .int .i64 n] h fun v h' => v = .bool true ∧ Grows h h' := by
  refine enter (rep := rep) (m := 9) (ex := []) (cu := []) tysOk Try.func4 rfl (by decide) (rs := [.tmp 4]) rfl rfl [.val (.string s), .val (.int .i64 n)] rfl ?_
  ((repeat' ((conv => whnf); (first | (refine Ar.fit (by first | omega | (simp only [lo, hi]; omega)) ?_) | (refine VC.mk (by (first | omega | rfl | assumption | exact Sl.plain (by assumption) (by omega) | (and_intros <;> first | omega | rfl | assumption | (simp only [List.length_set]; omega) | (simp only [List.length_append, List.length_take, List.length_replicate, List.length_cons, List.length_nil]; omega) | (simp only [ByteArray.size_extract, ByteArray.size_append]; omega) | (simp only [List.length_cons, List.length_nil]; omega) | (simp only [Int.toNat_natCast, Int.toNat_one, List.length_take, List.length_cons, List.length_nil] at *; omega)))) ?_) | (refine Br.mk ?_ ?_ <;> intro hb <;> (try (first | (exfalso; omega) | exact absurd rfl hb | exact Bool.noConfusion hb | exact absurd (fun e => Bool.noConfusion e) hb | (exfalso; simp only [List.length_cons, List.length_nil] at hb; omega) | (exfalso; simp only [Int.toNat_natCast, Int.toNat_one, List.length_take, List.length_cons, List.length_nil] at hb; omega)))) | (refine XLoad.of (by assumption) rfl rfl (by omega) (by omega) rfl ?_) | (refine New.mk ?_; intro b hb) | (refine New2.mk ?_; intro b c hb hbc) | (refine SameR.same ?_) | (refine Two.mk ?_ ?_) | (refine Tri.mk ?_ ?_ ?_) | (refine ed_eql ?_) | (refine ed_neq ?_) | (refine drawn tysOk mixed (by kernel_rfl) ?_) | (apply CallK.pure; (case hh => (intro h1 hs; exact line_any _ _ _ hz))) | (apply CallK.pure; (case hh => (intro h1 hs; exact rline_any _ _ _ hz))) | (apply CallK.pure; (case hh => (intro h1 hs; exact fixed_any _))) | fail))); all_goals (try (conv => whnf)))
  exact ⟨fun h' hs => ⟨prop_true rfl, hs.grows⟩⟩
set_option maxHeartbeats 1000000 in
set_option maxRecDepth 10000 in
theorem places_law (s : ByteArray) (n : Int) (h : Heap) (hz : s.size ≤ 1048576) : CallsH Try.prog 5 #[.string s, .int .i64 n] h fun v h' => v = .bool true ∧ Grows h h' := by
  refine enter (rep := rep) (m := 9) (ex := []) (cu := []) tysOk Try.func5 rfl (by decide) (rs := [.tmp 4]) rfl rfl [.val (.string s), .val (.int .i64 n)] rfl ?_
  ((repeat' ((conv => whnf); (first | (refine Ar.fit (by first | omega | (simp only [lo, hi]; omega)) ?_) | (refine VC.mk (by (first | omega | rfl | assumption | exact Sl.plain (by assumption) (by omega) | (and_intros <;> first | omega | rfl | assumption | (simp only [List.length_set]; omega) | (simp only [List.length_append, List.length_take, List.length_replicate, List.length_cons, List.length_nil]; omega) | (simp only [ByteArray.size_extract, ByteArray.size_append]; omega) | (simp only [List.length_cons, List.length_nil]; omega) | (simp only [Int.toNat_natCast, Int.toNat_one, List.length_take, List.length_cons, List.length_nil] at *; omega)))) ?_) | (refine Br.mk ?_ ?_ <;> intro hb <;> (try (first | (exfalso; omega) | exact absurd rfl hb | exact Bool.noConfusion hb | exact absurd (fun e => Bool.noConfusion e) hb | (exfalso; simp only [List.length_cons, List.length_nil] at hb; omega) | (exfalso; simp only [Int.toNat_natCast, Int.toNat_one, List.length_take, List.length_cons, List.length_nil] at hb; omega)))) | (refine XLoad.of (by assumption) rfl rfl (by omega) (by omega) rfl ?_) | (refine New.mk ?_; intro b hb) | (refine New2.mk ?_; intro b c hb hbc) | (refine SameR.same ?_) | (refine Two.mk ?_ ?_) | (refine Tri.mk ?_ ?_ ?_) | (refine ed_eql ?_) | (refine ed_neq ?_) | (refine drawn tysOk mixed (by kernel_rfl) ?_) | (apply CallK.pure; (case hh => (intro h1 hs; exact at_any _ _ _ hz))) | (apply CallK.pure; (case hh => (intro h1 hs; exact rat_any _ _ _ hz))) | (apply CallK.pure; (case hh => (intro h1 hs; exact fixed_any _))) | fail))); all_goals (try (conv => whnf)))
  all_goals exact ⟨fun h' hs => ⟨prop_true rfl, hs.grows⟩⟩
set_option maxHeartbeats 1000000 in
set_option maxRecDepth 10000 in
theorem offs_law (s : ByteArray) (l c : Int) (h : Heap) (hz : s.size ≤ 1048576) (hc : c ≤ 9223372036854775807) : CallsH Try.prog 6 #[.string s, .agg #[.int .i64 l, .int .i64 c]] h fun v h' => v = .bool true ∧ Grows h h' := by
  refine enter (rep := rep) (m := 9) (ex := []) (cu := []) tysOk Try.func6 rfl (by decide) (rs := [.tmp 4]) rfl rfl [.val (.string s), .agg [.val (.int .i64 l), .val (.int .i64 c)]] rfl ?_
  ((repeat' ((conv => whnf); (first | (refine Ar.fit (by first | omega | (simp only [lo, hi]; omega)) ?_) | (refine VC.mk (by (first | omega | rfl | assumption | exact Sl.plain (by assumption) (by omega) | (and_intros <;> first | omega | rfl | assumption | (simp only [List.length_set]; omega) | (simp only [List.length_append, List.length_take, List.length_replicate, List.length_cons, List.length_nil]; omega) | (simp only [ByteArray.size_extract, ByteArray.size_append]; omega) | (simp only [List.length_cons, List.length_nil]; omega) | (simp only [Int.toNat_natCast, Int.toNat_one, List.length_take, List.length_cons, List.length_nil] at *; omega)))) ?_) | (refine Br.mk ?_ ?_ <;> intro hb <;> (try (first | (exfalso; omega) | exact absurd rfl hb | exact Bool.noConfusion hb | exact absurd (fun e => Bool.noConfusion e) hb | (exfalso; simp only [List.length_cons, List.length_nil] at hb; omega) | (exfalso; simp only [Int.toNat_natCast, Int.toNat_one, List.length_take, List.length_cons, List.length_nil] at hb; omega)))) | (refine XLoad.of (by assumption) rfl rfl (by omega) (by omega) rfl ?_) | (refine New.mk ?_; intro b hb) | (refine New2.mk ?_; intro b c hb hbc) | (refine SameR.same ?_) | (refine Two.mk ?_ ?_) | (refine Tri.mk ?_ ?_ ?_) | (refine ed_eql ?_) | (refine ed_neq ?_) | (refine drawn tysOk mixed (by kernel_rfl) ?_) | (apply CallK.pure; (case hh => (intro h1 hs; exact off_any _ _ _ _ hz hc))) | (apply CallK.pure; (case hh => (intro h1 hs; exact roff_any _ _ _ _ hz hc))) | (apply CallK.pure; (case hh => (intro h1 hs; exact fixed_any _))) | fail))); all_goals (try (conv => whnf)))
  all_goals exact ⟨fun h' hs => ⟨prop_true rfl, hs.grows⟩⟩
set_option maxHeartbeats 1000000 in
set_option maxRecDepth 10000 in
theorem starts_law (s : ByteArray) (h : Heap) (hz : s.size ≤ 1048576) : CallsH Try.prog 3 #[.string s] h fun v h' => v = .bool true ∧ Grows h h' := by
  refine enter (rep := rep) (m := 4) (ex := []) (cu := []) tysOk Try.func3 rfl (by decide) (rs := [.tmp 2]) rfl rfl [.val (.string s)] rfl ?_
  ((repeat' ((conv => whnf); (first | (refine Ar.fit (by first | omega | (simp only [lo, hi]; omega)) ?_) | (refine VC.mk (by (first | omega | rfl | assumption | exact Sl.plain (by assumption) (by omega) | (and_intros <;> first | omega | rfl | assumption | (simp only [List.length_set]; omega) | (simp only [List.length_append, List.length_take, List.length_replicate, List.length_cons, List.length_nil]; omega) | (simp only [ByteArray.size_extract, ByteArray.size_append]; omega) | (simp only [List.length_cons, List.length_nil]; omega) | (simp only [Int.toNat_natCast, Int.toNat_one, List.length_take, List.length_cons, List.length_nil] at *; omega)))) ?_) | (refine Br.mk ?_ ?_ <;> intro hb <;> (try (first | (exfalso; omega) | exact absurd rfl hb | exact Bool.noConfusion hb | exact absurd (fun e => Bool.noConfusion e) hb | (exfalso; simp only [List.length_cons, List.length_nil] at hb; omega) | (exfalso; simp only [Int.toNat_natCast, Int.toNat_one, List.length_take, List.length_cons, List.length_nil] at hb; omega)))) | (refine XLoad.of (by assumption) rfl rfl (by omega) (by omega) rfl ?_) | (refine New.mk ?_; intro b hb) | (refine New2.mk ?_; intro b c hb hbc) | (refine SameR.same ?_) | (refine Two.mk ?_ ?_) | (refine Tri.mk ?_ ?_ ?_) | (refine ed_eql ?_) | (refine ed_neq ?_) | (refine drawn tysOk mixed (by kernel_rfl) ?_) | fail))); all_goals (try (conv => whnf)))
  refine CallK.epoch (fun h1 hq => starts_any s h1 hz) ?_
  rintro h1 u h2 hq ⟨hX, hg⟩
  obtain ⟨X, xl, xc, rfl, hE⟩ := hX.sl
  have hg0 := hq.grows.trans hg
  have hxl := hE.len_eq
  clear hX hq
  ((repeat' ((conv => whnf); (first | (refine Ar.fit (by first | omega | (simp only [lo, hi]; omega)) ?_) | (refine VC.mk (by (first | omega | rfl | assumption | exact Sl.plain (by assumption) (by omega) | (and_intros <;> first | omega | rfl | assumption | (simp only [List.length_set]; omega) | (simp only [List.length_append, List.length_take, List.length_replicate, List.length_cons, List.length_nil]; omega) | (simp only [ByteArray.size_extract, ByteArray.size_append]; omega) | (simp only [List.length_cons, List.length_nil]; omega) | (simp only [Int.toNat_natCast, Int.toNat_one, List.length_take, List.length_cons, List.length_nil] at *; omega)))) ?_) | (refine Br.mk ?_ ?_ <;> intro hb <;> (try (first | (exfalso; omega) | exact absurd rfl hb | exact Bool.noConfusion hb | exact absurd (fun e => Bool.noConfusion e) hb | (exfalso; simp only [List.length_cons, List.length_nil] at hb; omega) | (exfalso; simp only [Int.toNat_natCast, Int.toNat_one, List.length_take, List.length_cons, List.length_nil] at hb; omega)))) | (refine XLoad.of (by assumption) rfl rfl (by omega) (by omega) rfl ?_) | (refine New.mk ?_; intro b hb) | (refine New2.mk ?_; intro b c hb hbc) | (refine SameR.same ?_) | (refine Two.mk ?_ ?_) | (refine Tri.mk ?_ ?_ ?_) | (refine ed_eql ?_) | (refine ed_neq ?_) | (refine drawn tysOk mixed (by kernel_rfl) ?_) | (apply CallK.pure; (case hh => (intro h1 hs; exact fixed_any _))) | fail))); all_goals (try (conv => whnf)))
  refine CallK.epoch (fun h1 hq => rstarts_any s h1 hz) ?_
  rintro h3 u h4 hq2 ⟨hY, hg2⟩
  obtain ⟨Y, yl, yc, rfl, hF⟩ := hY.sl
  have hg3 := hg0.trans (hq2.grows.trans hg2)
  have hE2 := hE.grows (hq2.grows.trans hg2)
  clear hY hq2
  ((repeat' ((conv => whnf); (first | (refine Ar.fit (by first | omega | (simp only [lo, hi]; omega)) ?_) | (refine VC.mk (by (first | omega | rfl | assumption | exact Sl.plain (by assumption) (by omega) | (and_intros <;> first | omega | rfl | assumption | (simp only [List.length_set]; omega) | (simp only [List.length_append, List.length_take, List.length_replicate, List.length_cons, List.length_nil]; omega) | (simp only [ByteArray.size_extract, ByteArray.size_append]; omega) | (simp only [List.length_cons, List.length_nil]; omega) | (simp only [Int.toNat_natCast, Int.toNat_one, List.length_take, List.length_cons, List.length_nil] at *; omega)))) ?_) | (refine Br.mk ?_ ?_ <;> intro hb <;> (try (first | (exfalso; omega) | exact absurd rfl hb | exact Bool.noConfusion hb | exact absurd (fun e => Bool.noConfusion e) hb | (exfalso; simp only [List.length_cons, List.length_nil] at hb; omega) | (exfalso; simp only [Int.toNat_natCast, Int.toNat_one, List.length_take, List.length_cons, List.length_nil] at hb; omega)))) | (refine XLoad.of (by assumption) rfl rfl (by omega) (by omega) rfl ?_) | (refine New.mk ?_; intro b hb) | (refine New2.mk ?_; intro b c hb hbc) | (refine SameR.same ?_) | (refine Two.mk ?_ ?_) | (refine Tri.mk ?_ ?_ ?_) | (refine ed_eql ?_) | (refine ed_neq ?_) | (refine drawn tysOk mixed (by kernel_rfl) ?_) | (apply CallK.pure; (case hh => (intro h1 hs; exact (ints_any _ _ _ _ _ _ _ _ _ (hE2.grows hs.grows) (hF.grows hs.grows)).mono (fun v h' ⟨e1, e2⟩ => ⟨e1.trans (prop_true rfl), e2⟩)))) | (apply CallK.pure; (case hh => (intro h1 hs; exact count_any _ _ hz))) | fail))); all_goals (try (conv => whnf)))
  exact ⟨fun h' hs => ⟨prop_true (by omega), hg3.trans hs.grows⟩⟩
/-! ### there and back -/
theorem at_ok {s : ByteArray} {off : Int} (ho : 0 ≤ off ∧ off ≤ s.size) : ∃ n, IsLine s off n := by
  have key : ∀ (d : Nat) (n : Int), 1 ≤ n → n + d = LL s → frB s n ≤ off → ∃ n, IsLine s off n := by
    intro d
    induction d with
    | zero =>
      intro n h1 h2 h3
      exact ⟨n, h1, by omega, h3, by rw [toB, if_pos (by omega)]; exact ho.2⟩
    | succ d ih =>
      intro n h1 h2 h3
      by_cases h4 : off ≤ toB s n
      · exact ⟨n, h1, by omega, h3, h4⟩
      · refine ih (n + 1) (by omega) (by omega) ?_
        rw [fr_next s n h1 (by omega)]; omega
  have hl : 1 ≤ LL s := by simp only [LL, startsF, List.length_cons]; omega
  exact key (LL s - 1).toNat 1 (by omega) (by omega) (by rw [fr_first]; exact ho.1)
end Go.Ex
