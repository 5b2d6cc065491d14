/-
  Lines: a line's ends, its text; line and column of a place.
-/
import Derived.Test.YtfaiabpmaklgmaaLnB
namespace Go.Ex
open Go.Proofs
set_option linter.unusedVariables false
set_option linter.unusedSimpArgs false
attribute [local irreducible] CallsH

abbrev LL (s : ByteArray) : Int := (startsF s).length
def frB (s : ByteArray) (n : Int) : Int := getI 0 (startsF s) (n - 1)
def toB (s : ByteArray) (n : Int) : Int := if n = LL s then s.size else getI 0 (startsF s) n - 1
theorem seg_s (s : ByteArray) (n : Int) (h1 : 1 ≤ n) (h2 : n ≤ LL s) : 0 ≤ frB s n ∧ frB s n ≤ toB s n ∧ toB s n ≤ s.size ∧ (∀ j, frB s n ≤ j → j < toB s n → byteI s j ≠ 10) ∧ (n < LL s → toB s n < s.size ∧ byteI s (toB s n) = 10) := by
  obtain ⟨a1, a2, a3, a4, a5⟩ := seg (byl s) 0 (n - 1).toNat (by have : LL s = ((0 :: stGo (byl s) 0).length : Nat) := rfl; omega)
  rw [show (((n - 1).toNat : Nat) : Int) = n - 1 by omega] at a1 a2 a3 a4 a5
  rw [show n - 1 + 1 = n by omega] at a2 a3 a4 a5
  have e : (if (n - 1).toNat + 1 = (0 :: stGo (byl s) 0).length then 0 + ((byl s).length : Int) else getI 0 (0 :: stGo (byl s) 0) n - 1) = toB s n := by
    have hLd : LL s = ((0 :: stGo (byl s) 0).length : Nat) := rfl
    unfold toB
    by_cases h : n = LL s
    · rw [if_pos h, if_pos (by omega), byl_size]; omega
    · rw [if_neg h, if_neg (by omega)]; rfl
  have e5 : n < LL s → getI 0 (0 :: stGo (byl s) 0) n - 1 = toB s n := fun h => by
    simp only [toB]; rw [if_neg (by omega)]; rfl
  rw [e] at a2 a3 a4
  rw [byl_size] at a3
  refine ⟨a1, a2, by omega, fun j h3 h4 => ?_, fun h => ?_⟩
  · rw [byteI_eq]
    have := a4 j h3 h4
    rwa [show j - 0 = j by omega] at this
  · obtain ⟨b1, b2⟩ := a5 (by have : LL s = ((0 :: stGo (byl s) 0).length : Nat) := rfl; omega)
    rw [e5 h] at b1 b2
    rw [byl_size] at b1
    refine ⟨by omega, ?_⟩
    rw [byteI_eq]
    rwa [show toB s n - 0 = toB s n by omega] at b2
theorem fr_next (s : ByteArray) (n : Int) (h1 : 1 ≤ n) (h2 : n < LL s) : frB s (n + 1) = toB s n + 1 := by
  simp only [frB, toB]
  rw [if_neg (by omega), show n + 1 - 1 = n by omega]
  omega
theorem fr_mono (s : ByteArray) : ∀ (d : Nat) (n : Int), 1 ≤ n → n + d ≤ LL s → frB s n ≤ frB s (n + d)
  | 0, n, h1, h2 => by simp
  | d + 1, n, h1, h2 => by
    have ih := fr_mono s d n h1 (by omega)
    have h3 := seg_s s (n + d) (by omega) (by omega)
    have h4 := fr_next s (n + d) (by omega) (by omega)
    rw [show n + ((d + 1 : Nat) : Int) = n + d + 1 by omega]
    omega
theorem fr_first (s : ByteArray) : frB s 1 = 0 := rfl
/-- a place lies in a line -/
structure IsLine (s : ByteArray) (off n : Int) : Prop where
  lo : 1 ≤ n
  hi : n ≤ LL s
  ge : frB s n ≤ off
  le : off ≤ toB s n
theorem IsLine.uniq {s : ByteArray} {off n m : Int} (h : IsLine s off n) (h' : IsLine s off m) : n = m := by
  have key : ∀ {n m : Int}, IsLine s off n → IsLine s off m → ¬ n < m := fun {n m} h h' hlt => by
    have h1 := fr_mono s (m - (n + 1)).toNat (n + 1) (by have := h.lo; omega) (by have := h'.hi; omega)
    rw [show n + 1 + (((m - (n + 1)).toNat : Nat) : Int) = m by omega, fr_next s n h.lo (by have := h'.hi; omega)] at h1
    have := h.le; have := h'.ge; omega
  have a := key h h'
  have b := key h' h
  omega
noncomputable def lineN (s : ByteArray) (off : Int) : Int := Classical.epsilon fun n => IsLine s off n
theorem lineN_eq {s : ByteArray} {off n : Int} (h : IsLine s off n) : lineN s off = n := (Classical.epsilon_spec (p := fun n => IsLine s off n) ⟨n, h⟩).uniq h
def bfV (s : ByteArray) (n : Int) : Int := if 1 ≤ n ∧ n ≤ LL s then frB s n else 0
def btV (s : ByteArray) (n : Int) : Int := if 1 ≤ n ∧ n ≤ LL s then toB s n else 0
set_option maxHeartbeats 1000000 in
set_option maxRecDepth 10000 in
theorem bounds_any (s : ByteArray) (n : Int) (h : Heap) (hs : s.size ≤ 1048576) : CallsH Try.prog 22 #[.string s, .int .i64 n] h fun v h' => v = .tuple #[.int .i64 (bfV s n), .int .i64 (btV s n), denC (.prop (1 ≤ n ∧ n ≤ LL s))] ∧ Grows h h' := by
  refine enter (rep := rep) (m := 8) (ex := [10, 19]) (cu := []) tysOk Try.func22 rfl (by decide) (rs := [.tmp 4, .tmp 5, .tmp 6]) rfl rfl [.val (.string s), .val (.int .i64 n)] rfl ?_
  ((repeat' ((conv => whnf); (first | (refine Ar.fit (by first | omega | (simp only [lo, hi]; omega)) ?_) | (refine VC.mk (by (first | omega | rfl | assumption | exact Sl.plain (by assumption) (by omega) | (and_intros <;> first | omega | rfl | assumption | (simp only [List.length_set]; omega) | (simp only [List.length_append, List.length_take, List.length_replicate, List.length_cons, List.length_nil]; omega) | (simp only [ByteArray.size_extract, ByteArray.size_append]; omega) | (simp only [List.length_cons, List.length_nil]; omega) | (simp only [Int.toNat_natCast, Int.toNat_one, List.length_take, List.length_cons, List.length_nil] at *; omega)))) ?_) | (refine Br.mk ?_ ?_ <;> intro hb <;> (try (first | (exfalso; omega) | exact absurd rfl hb | exact Bool.noConfusion hb | exact absurd (fun e => Bool.noConfusion e) hb | (exfalso; simp only [List.length_cons, List.length_nil] at hb; omega) | (exfalso; simp only [Int.toNat_natCast, Int.toNat_one, List.length_take, List.length_cons, List.length_nil] at hb; omega)))) | (refine XLoad.of (by assumption) rfl rfl (by omega) (by omega) rfl ?_) | (refine New.mk ?_; intro b hb) | (refine New2.mk ?_; intro b c hb hbc) | (refine SameR.same ?_) | (refine Two.mk ?_ ?_) | (refine Tri.mk ?_ ?_ ?_) | (refine ed_eql ?_) | (refine ed_neq ?_) | (refine drawn tysOk mixed (by kernel_rfl) ?_) | fail))); all_goals (try (conv => whnf)))
  refine CallK.epoch (fun h1 hq => starts_any s h1 hs) ?_
  rintro h1 u h2 hq ⟨hX, hg⟩
  obtain ⟨X, xl, xc, rfl, hE⟩ := hX.sl
  have hg0 := hq.grows.trans hg
  clear hX hq
  have hxl := hE.len_eq
  have hLL : LL s = xl := by simp only [LL]; omega
  have hll := starts_len s
  by_cases hn : 1 ≤ n ∧ n ≤ LL s
  · obtain ⟨a1, a2, a3, _, a5⟩ := seg_s s n hn.1 hn.2
    have z1 : getI (intR .i64).dflt (startsF s) (n - 1) = frB s n := rfl
    have z2 : n < LL s → getI (intR .i64).dflt (startsF s) n - 1 = toB s n := fun h => by simp only [toB]; rw [if_neg (by omega)]; rfl
    have z3 : n = LL s → (s.size : Int) = toB s n := fun h => by simp only [toB]; rw [if_pos h]
    have e1 : bfV s n = frB s n := by rw [bfV, if_pos hn]
    have e2 : btV s n = toB s n := by rw [btV, if_pos hn]
    by_cases hl : n = LL s
    · have z3 := z3 hl
      ((repeat' ((conv => whnf); (first | (refine Ar.fit (by first | omega | (simp only [lo, hi]; omega)) ?_) | (refine VC.mk (by (first | omega | rfl | assumption | exact Sl.plain (by assumption) (by omega) | (and_intros <;> first | omega | rfl | assumption | (simp only [List.length_set]; omega) | (simp only [List.length_append, List.length_take, List.length_replicate, List.length_cons, List.length_nil]; omega) | (simp only [ByteArray.size_extract, ByteArray.size_append]; omega) | (simp only [List.length_cons, List.length_nil]; omega) | (simp only [Int.toNat_natCast, Int.toNat_one, List.length_take, List.length_cons, List.length_nil] at *; omega)))) ?_) | (refine Br.mk ?_ ?_ <;> intro hb <;> (try (first | (exfalso; omega) | exact absurd rfl hb | exact Bool.noConfusion hb | exact absurd (fun e => Bool.noConfusion e) hb | (exfalso; simp only [List.length_cons, List.length_nil] at hb; omega) | (exfalso; simp only [Int.toNat_natCast, Int.toNat_one, List.length_take, List.length_cons, List.length_nil] at hb; omega)))) | (refine XLoad.of (by assumption) rfl rfl (by omega) (by omega) rfl ?_) | (refine New.mk ?_; intro b hb) | (refine New2.mk ?_; intro b c hb hbc) | (refine SameR.same ?_) | (refine Two.mk ?_ ?_) | (refine Tri.mk ?_ ?_ ?_) | (refine ed_eql ?_) | (refine ed_neq ?_) | (refine drawn tysOk mixed (by kernel_rfl) ?_) | fail))); all_goals (try (conv => whnf)))
      exact ⟨fun h' hs => ⟨tup3_eq (int_eq (by rw [e1]; exact z1)) (int_eq (by rw [e2]; exact z3)) (bool_yes hn), hg0.trans hs.grows⟩⟩
    · have z2 := z2 (by omega)
      ((repeat' ((conv => whnf); (first | (refine Ar.fit (by first | omega | (simp only [lo, hi]; omega)) ?_) | (refine VC.mk (by (first | omega | rfl | assumption | exact Sl.plain (by assumption) (by omega) | (and_intros <;> first | omega | rfl | assumption | (simp only [List.length_set]; omega) | (simp only [List.length_append, List.length_take, List.length_replicate, List.length_cons, List.length_nil]; omega) | (simp only [ByteArray.size_extract, ByteArray.size_append]; omega) | (simp only [List.length_cons, List.length_nil]; omega) | (simp only [Int.toNat_natCast, Int.toNat_one, List.length_take, List.length_cons, List.length_nil] at *; omega)))) ?_) | (refine Br.mk ?_ ?_ <;> intro hb <;> (try (first | (exfalso; omega) | exact absurd rfl hb | exact Bool.noConfusion hb | exact absurd (fun e => Bool.noConfusion e) hb | (exfalso; simp only [List.length_cons, List.length_nil] at hb; omega) | (exfalso; simp only [Int.toNat_natCast, Int.toNat_one, List.length_take, List.length_cons, List.length_nil] at hb; omega)))) | (refine XLoad.of (by assumption) rfl rfl (by omega) (by omega) rfl ?_) | (refine New.mk ?_; intro b hb) | (refine New2.mk ?_; intro b c hb hbc) | (refine SameR.same ?_) | (refine Two.mk ?_ ?_) | (refine Tri.mk ?_ ?_ ?_) | (refine ed_eql ?_) | (refine ed_neq ?_) | (refine drawn tysOk mixed (by kernel_rfl) ?_) | fail))); all_goals (try (conv => whnf)))
      exact ⟨fun h' hs => ⟨tup3_eq (int_eq (by rw [e1]; exact z1)) (int_eq (by rw [e2]; exact z2)) (bool_yes hn), hg0.trans hs.grows⟩⟩
  · have e1 : bfV s n = 0 := by rw [bfV, if_neg hn]
    have e2 : btV s n = 0 := by rw [btV, if_neg hn]
    rw [e1, e2]
    ((repeat' ((conv => whnf); (first | (refine Ar.fit (by first | omega | (simp only [lo, hi]; omega)) ?_) | (refine VC.mk (by (first | omega | rfl | assumption | exact Sl.plain (by assumption) (by omega) | (and_intros <;> first | omega | rfl | assumption | (simp only [List.length_set]; omega) | (simp only [List.length_append, List.length_take, List.length_replicate, List.length_cons, List.length_nil]; omega) | (simp only [ByteArray.size_extract, ByteArray.size_append]; omega) | (simp only [List.length_cons, List.length_nil]; omega) | (simp only [Int.toNat_natCast, Int.toNat_one, List.length_take, List.length_cons, List.length_nil] at *; omega)))) ?_) | (refine Br.mk ?_ ?_ <;> intro hb <;> (try (first | (exfalso; omega) | exact absurd rfl hb | exact Bool.noConfusion hb | exact absurd (fun e => Bool.noConfusion e) hb | (exfalso; simp only [List.length_cons, List.length_nil] at hb; omega) | (exfalso; simp only [Int.toNat_natCast, Int.toNat_one, List.length_take, List.length_cons, List.length_nil] at hb; omega)))) | (refine XLoad.of (by assumption) rfl rfl (by omega) (by omega) rfl ?_) | (refine New.mk ?_; intro b hb) | (refine New2.mk ?_; intro b c hb hbc) | (refine SameR.same ?_) | (refine Two.mk ?_ ?_) | (refine Tri.mk ?_ ?_ ?_) | (refine ed_eql ?_) | (refine ed_neq ?_) | (refine drawn tysOk mixed (by kernel_rfl) ?_) | fail))); all_goals (try (conv => whnf)))
    all_goals exact ⟨fun h' hs => ⟨tup3_eq rfl rfl (bool_no hn), hg0.trans hs.grows⟩⟩
noncomputable def lineT (s : ByteArray) (n : Int) : ByteArray := if 1 ≤ n ∧ n ≤ LL s then s.extract (frB s n).toNat (toB s n).toNat else ⟨#[]⟩
def lineE (s : ByteArray) (n : Int) : Int := if 1 ≤ n ∧ n ≤ LL s then 0 else 1
set_option maxHeartbeats 1000000 in
set_option maxRecDepth 10000 in
theorem line_any (s : ByteArray) (n : Int) (h : Heap) (hs : s.size ≤ 1048576) : CallsH Try.prog 15 #[.string s, .int .i64 n] h fun v h' => v = .tuple #[.string (lineT s n), .int .i64 (lineE s n)] ∧ Grows h h' := by
  refine enter (rep := rep) (m := 9) (ex := []) (cu := []) tysOk Try.func15 rfl (by decide) (rs := [.tmp 4, .tmp 5]) rfl rfl [.val (.string s), .val (.int .i64 n)] rfl ?_
  have hB := fun h => bounds_any s n h hs
  by_cases hn : 1 ≤ n ∧ n ≤ LL s
  · obtain ⟨a1, a2, a3, _, a5⟩ := seg_s s n hn.1 hn.2
    have e1 : bfV s n = frB s n := by rw [bfV, if_pos hn]
    have e2 : btV s n = toB s n := by rw [btV, if_pos hn]
    have e3 : lineT s n = s.extract (frB s n).toNat (toB s n).toNat := by rw [lineT, if_pos hn]
    have e4 : lineE s n = 0 := by rw [lineE, if_pos hn]
    rw [e1, e2, prop_true hn] at hB
    rw [e3, e4]
    ((repeat' ((conv => whnf); (first | (refine Ar.fit (by first | omega | (simp only [lo, hi]; omega)) ?_) | (refine VC.mk (by (first | omega | rfl | assumption | exact Sl.plain (by assumption) (by omega) | (and_intros <;> first | omega | rfl | assumption | (simp only [List.length_set]; omega) | (simp only [List.length_append, List.length_take, List.length_replicate, List.length_cons, List.length_nil]; omega) | (simp only [ByteArray.size_extract, ByteArray.size_append]; omega) | (simp only [List.length_cons, List.length_nil]; omega) | (simp only [Int.toNat_natCast, Int.toNat_one, List.length_take, List.length_cons, List.length_nil] at *; omega)))) ?_) | (refine Br.mk ?_ ?_ <;> intro hb <;> (try (first | (exfalso; omega) | exact absurd rfl hb | exact Bool.noConfusion hb | exact absurd (fun e => Bool.noConfusion e) hb | (exfalso; simp only [List.length_cons, List.length_nil] at hb; omega) | (exfalso; simp only [Int.toNat_natCast, Int.toNat_one, List.length_take, List.length_cons, List.length_nil] at hb; omega)))) | (refine XLoad.of (by assumption) rfl rfl (by omega) (by omega) rfl ?_) | (refine New.mk ?_; intro b hb) | (refine New2.mk ?_; intro b c hb hbc) | (refine SameR.same ?_) | (refine Two.mk ?_ ?_) | (refine Tri.mk ?_ ?_ ?_) | (refine ed_eql ?_) | (refine ed_neq ?_) | (refine drawn tysOk mixed (by kernel_rfl) ?_) | (apply CallK.pure; (case hh => (intro h1 hs; exact hB _))) | fail))); all_goals (try (conv => whnf)))
    exact ⟨fun h' hs => ⟨rfl, hs.grows⟩⟩
  · have e3 : lineT s n = ⟨#[]⟩ := by rw [lineT, if_neg hn]
    have e4 : lineE s n = 1 := by rw [lineE, if_neg hn]
    rw [show denC (.prop (1 ≤ n ∧ n ≤ LL s)) = .bool false by simp [denC, hn]] at hB
    rw [e3, e4]
    ((repeat' ((conv => whnf); (first | (refine Ar.fit (by first | omega | (simp only [lo, hi]; omega)) ?_) | (refine VC.mk (by (first | omega | rfl | assumption | exact Sl.plain (by assumption) (by omega) | (and_intros <;> first | omega | rfl | assumption | (simp only [List.length_set]; omega) | (simp only [List.length_append, List.length_take, List.length_replicate, List.length_cons, List.length_nil]; omega) | (simp only [ByteArray.size_extract, ByteArray.size_append]; omega) | (simp only [List.length_cons, List.length_nil]; omega) | (simp only [Int.toNat_natCast, Int.toNat_one, List.length_take, List.length_cons, List.length_nil] at *; omega)))) ?_) | (refine Br.mk ?_ ?_ <;> intro hb <;> (try (first | (exfalso; omega) | exact absurd rfl hb | exact Bool.noConfusion hb | exact absurd (fun e => Bool.noConfusion e) hb | (exfalso; simp only [List.length_cons, List.length_nil] at hb; omega) | (exfalso; simp only [Int.toNat_natCast, Int.toNat_one, List.length_take, List.length_cons, List.length_nil] at hb; omega)))) | (refine XLoad.of (by assumption) rfl rfl (by omega) (by omega) rfl ?_) | (refine New.mk ?_; intro b hb) | (refine New2.mk ?_; intro b c hb hbc) | (refine SameR.same ?_) | (refine Two.mk ?_ ?_) | (refine Tri.mk ?_ ?_ ?_) | (refine ed_eql ?_) | (refine ed_neq ?_) | (refine drawn tysOk mixed (by kernel_rfl) ?_) | (apply CallK.pure; (case hh => (intro h1 hs; exact hB _))) | fail))); all_goals (try (conv => whnf)))
    exact ⟨fun h' hs => ⟨rfl, hs.grows⟩⟩
set_option maxHeartbeats 1000000 in
set_option maxRecDepth 10000 in
theorem rline_any (s : ByteArray) (n : Int) (h : Heap) (hs : s.size ≤ 1048576) : CallsH Try.prog 16 #[.string s, .int .i64 n] h fun v h' => v = .tuple #[.string (lineT s n), .int .i64 (lineE s n)] ∧ Grows h h' := by
  refine enter (rep := rep) (m := 8) (ex := []) (cu := []) tysOk Try.func16 rfl (by decide) (rs := [.tmp 4, .tmp 5]) rfl rfl [.val (.string s), .val (.int .i64 n)] rfl ?_
  ((repeat' ((conv => whnf); (first | (refine Ar.fit (by first | omega | (simp only [lo, hi]; omega)) ?_) | (refine VC.mk (by (first | omega | rfl | assumption | exact Sl.plain (by assumption) (by omega) | (and_intros <;> first | omega | rfl | assumption | (simp only [List.length_set]; omega) | (simp only [List.length_append, List.length_take, List.length_replicate, List.length_cons, List.length_nil]; omega) | (simp only [ByteArray.size_extract, ByteArray.size_append]; omega) | (simp only [List.length_cons, List.length_nil]; omega) | (simp only [Int.toNat_natCast, Int.toNat_one, List.length_take, List.length_cons, List.length_nil] at *; omega)))) ?_) | (refine Br.mk ?_ ?_ <;> intro hb <;> (try (first | (exfalso; omega) | exact absurd rfl hb | exact Bool.noConfusion hb | exact absurd (fun e => Bool.noConfusion e) hb | (exfalso; simp only [List.length_cons, List.length_nil] at hb; omega) | (exfalso; simp only [Int.toNat_natCast, Int.toNat_one, List.length_take, List.length_cons, List.length_nil] at hb; omega)))) | (refine XLoad.of (by assumption) rfl rfl (by omega) (by omega) rfl ?_) | (refine New.mk ?_; intro b hb) | (refine New2.mk ?_; intro b c hb hbc) | (refine SameR.same ?_) | (refine Two.mk ?_ ?_) | (refine Tri.mk ?_ ?_ ?_) | (refine ed_eql ?_) | (refine ed_neq ?_) | (refine drawn tysOk mixed (by kernel_rfl) ?_) | fail))); all_goals (try (conv => whnf)))
  refine CallK.epoch (fun h1 hq => rstarts_any s h1 hs) ?_
  rintro h1 u h2 hq ⟨hX, hg⟩
  obtain ⟨X, xl, xc, rfl, hE⟩ := hX.sl
  have hg0 := hq.grows.trans hg
  clear hX hq
  have hxl := hE.len_eq
  have hLL : LL s = xl := by simp only [LL]; omega
  have hll := starts_len s
  by_cases hn : 1 ≤ n ∧ n ≤ LL s
  · obtain ⟨a1, a2, a3, a4, a5⟩ := seg_s s n hn.1 hn.2
    have z1 : getI (intR .i64).dflt (startsF s) (n - 1) = frB s n := rfl
    have z3 : n = LL s → (s.size : Int) = toB s n := fun h => by simp only [toB]; rw [if_pos h]
    have e3 : lineT s n = s.extract (frB s n).toNat (toB s n).toNat := by rw [lineT, if_pos hn]
    have e4 : lineE s n = 0 := by rw [lineE, if_pos hn]
    rw [e3, e4]
    ((repeat' ((conv => whnf); (first | (refine Ar.fit (by first | omega | (simp only [lo, hi]; omega)) ?_) | (refine VC.mk (by (first | omega | rfl | assumption | exact Sl.plain (by assumption) (by omega) | (and_intros <;> first | omega | rfl | assumption | (simp only [List.length_set]; omega) | (simp only [List.length_append, List.length_take, List.length_replicate, List.length_cons, List.length_nil]; omega) | (simp only [ByteArray.size_extract, ByteArray.size_append]; omega) | (simp only [List.length_cons, List.length_nil]; omega) | (simp only [Int.toNat_natCast, Int.toNat_one, List.length_take, List.length_cons, List.length_nil] at *; omega)))) ?_) | (refine Br.mk ?_ ?_ <;> intro hb <;> (try (first | (exfalso; omega) | exact absurd rfl hb | exact Bool.noConfusion hb | exact absurd (fun e => Bool.noConfusion e) hb | (exfalso; simp only [List.length_cons, List.length_nil] at hb; omega) | (exfalso; simp only [Int.toNat_natCast, Int.toNat_one, List.length_take, List.length_cons, List.length_nil] at hb; omega)))) | (refine XLoad.of (by assumption) rfl rfl (by omega) (by omega) rfl ?_) | (refine New.mk ?_; intro b hb) | (refine New2.mk ?_; intro b c hb hbc) | (refine SameR.same ?_) | (refine Two.mk ?_ ?_) | (refine Tri.mk ?_ ?_ ?_) | (refine ed_eql ?_) | (refine ed_neq ?_) | (refine drawn tysOk mixed (by kernel_rfl) ?_) | fail))); all_goals (try (conv => whnf)))
    refine loop_rule tysOk [7] (fun x : Int => [(7, .val (.int .i64 x))]) (fun _ => []) (fun μ x => frB s n ≤ x ∧ x ≤ toB s n ∧ μ = (toB s n - x).toNat) (toB s n - frB s n).toNat (frB s n) ?_
    conv => whnf
    refine ⟨by ((repeat (refine ⟨rfl, ?_⟩)); trivial), trivial, ⟨by omega, a2, rfl⟩, ?_⟩
    rintro μ i ⟨b0, b1, b2⟩
    by_cases hi : i < toB s n
    · have := a4 i b0 hi
      ((repeat' ((conv => whnf); (first | (refine Ar.fit (by first | omega | (simp only [lo, hi]; omega)) ?_) | (refine VC.mk (by (first | omega | rfl | assumption | exact Sl.plain (by assumption) (by omega) | (and_intros <;> first | omega | rfl | assumption | (simp only [List.length_set]; omega) | (simp only [List.length_append, List.length_take, List.length_replicate, List.length_cons, List.length_nil]; omega) | (simp only [ByteArray.size_extract, ByteArray.size_append]; omega) | (simp only [List.length_cons, List.length_nil]; omega) | (simp only [Int.toNat_natCast, Int.toNat_one, List.length_take, List.length_cons, List.length_nil] at *; omega)))) ?_) | (refine Br.mk ?_ ?_ <;> intro hb <;> (try (first | (exfalso; omega) | exact absurd rfl hb | exact Bool.noConfusion hb | exact absurd (fun e => Bool.noConfusion e) hb | (exfalso; simp only [List.length_cons, List.length_nil] at hb; omega) | (exfalso; simp only [Int.toNat_natCast, Int.toNat_one, List.length_take, List.length_cons, List.length_nil] at hb; omega)))) | (refine XLoad.of (by assumption) rfl rfl (by omega) (by omega) rfl ?_) | (refine New.mk ?_; intro b hb) | (refine New2.mk ?_; intro b c hb hbc) | (refine SameR.same ?_) | (refine Two.mk ?_ ?_) | (refine Tri.mk ?_ ?_ ?_) | (refine ed_eql ?_) | (refine ed_neq ?_) | (refine drawn tysOk mixed (by kernel_rfl) ?_) | fail))); all_goals (try (conv => whnf)))
      refine ⟨μ - 1, i + 1, ⟨by omega, by omega, by omega⟩, by omega, by ((repeat (refine ⟨rfl, ?_⟩)); trivial), rfl, rfl, trivial⟩
    · have hie : i = toB s n := by omega
      by_cases hl : n = LL s
      · have z3 := z3 hl
        ((repeat' ((conv => whnf); (first | (refine Ar.fit (by first | omega | (simp only [lo, hi]; omega)) ?_) | (refine VC.mk (by (first | omega | rfl | assumption | exact Sl.plain (by assumption) (by omega) | (and_intros <;> first | omega | rfl | assumption | (simp only [List.length_set]; omega) | (simp only [List.length_append, List.length_take, List.length_replicate, List.length_cons, List.length_nil]; omega) | (simp only [ByteArray.size_extract, ByteArray.size_append]; omega) | (simp only [List.length_cons, List.length_nil]; omega) | (simp only [Int.toNat_natCast, Int.toNat_one, List.length_take, List.length_cons, List.length_nil] at *; omega)))) ?_) | (refine Br.mk ?_ ?_ <;> intro hb <;> (try (first | (exfalso; omega) | exact absurd rfl hb | exact Bool.noConfusion hb | exact absurd (fun e => Bool.noConfusion e) hb | (exfalso; simp only [List.length_cons, List.length_nil] at hb; omega) | (exfalso; simp only [Int.toNat_natCast, Int.toNat_one, List.length_take, List.length_cons, List.length_nil] at hb; omega)))) | (refine XLoad.of (by assumption) rfl rfl (by omega) (by omega) rfl ?_) | (refine New.mk ?_; intro b hb) | (refine New2.mk ?_; intro b c hb hbc) | (refine SameR.same ?_) | (refine Two.mk ?_ ?_) | (refine Tri.mk ?_ ?_ ?_) | (refine ed_eql ?_) | (refine ed_neq ?_) | (refine drawn tysOk mixed (by kernel_rfl) ?_) | fail))); all_goals (try (conv => whnf)))
        rw [← hie]
        exact ⟨fun h' hs => ⟨rfl, hg0.trans hs.grows⟩⟩
      · have a5 := a5 (by omega)
        rw [← hie] at a5
        ((repeat' ((conv => whnf); (first | (refine Ar.fit (by first | omega | (simp only [lo, hi]; omega)) ?_) | (refine VC.mk (by (first | omega | rfl | assumption | exact Sl.plain (by assumption) (by omega) | (and_intros <;> first | omega | rfl | assumption | (simp only [List.length_set]; omega) | (simp only [List.length_append, List.length_take, List.length_replicate, List.length_cons, List.length_nil]; omega) | (simp only [ByteArray.size_extract, ByteArray.size_append]; omega) | (simp only [List.length_cons, List.length_nil]; omega) | (simp only [Int.toNat_natCast, Int.toNat_one, List.length_take, List.length_cons, List.length_nil] at *; omega)))) ?_) | (refine Br.mk ?_ ?_ <;> intro hb <;> (try (first | (exfalso; omega) | exact absurd rfl hb | exact Bool.noConfusion hb | exact absurd (fun e => Bool.noConfusion e) hb | (exfalso; simp only [List.length_cons, List.length_nil] at hb; omega) | (exfalso; simp only [Int.toNat_natCast, Int.toNat_one, List.length_take, List.length_cons, List.length_nil] at hb; omega)))) | (refine XLoad.of (by assumption) rfl rfl (by omega) (by omega) rfl ?_) | (refine New.mk ?_; intro b hb) | (refine New2.mk ?_; intro b c hb hbc) | (refine SameR.same ?_) | (refine Two.mk ?_ ?_) | (refine Tri.mk ?_ ?_ ?_) | (refine ed_eql ?_) | (refine ed_neq ?_) | (refine drawn tysOk mixed (by kernel_rfl) ?_) | fail))); all_goals (try (conv => whnf)))
        rw [← hie]
        exact ⟨fun h' hs => ⟨rfl, hg0.trans hs.grows⟩⟩
  · have e3 : lineT s n = ⟨#[]⟩ := by rw [lineT, if_neg hn]
    have e4 : lineE s n = 1 := by rw [lineE, if_neg hn]
    rw [e3, e4]
    ((repeat' ((conv => whnf); (first | (refine Ar.fit (by first | omega | (simp only [lo, hi]; omega)) ?_) | (refine VC.mk (by (first | omega | rfl | assumption | exact Sl.plain (by assumption) (by omega) | (and_intros <;> first | omega | rfl | assumption | (simp only [List.length_set]; omega) | (simp only [List.length_append, List.length_take, List.length_replicate, List.length_cons, List.length_nil]; omega) | (simp only [ByteArray.size_extract, ByteArray.size_append]; omega) | (simp only [List.length_cons, List.length_nil]; omega) | (simp only [Int.toNat_natCast, Int.toNat_one, List.length_take, List.length_cons, List.length_nil] at *; omega)))) ?_) | (refine Br.mk ?_ ?_ <;> intro hb <;> (try (first | (exfalso; omega) | exact absurd rfl hb | exact Bool.noConfusion hb | exact absurd (fun e => Bool.noConfusion e) hb | (exfalso; simp only [List.length_cons, List.length_nil] at hb; omega) | (exfalso; simp only [Int.toNat_natCast, Int.toNat_one, List.length_take, List.length_cons, List.length_nil] at hb; omega)))) | (refine XLoad.of (by assumption) rfl rfl (by omega) (by omega) rfl ?_) | (refine New.mk ?_; intro b hb) | (refine New2.mk ?_; intro b c hb hbc) | (refine SameR.same ?_) | (refine Two.mk ?_ ?_) | (refine Tri.mk ?_ ?_ ?_) | (refine ed_eql ?_) | (refine ed_neq ?_) | (refine drawn tysOk mixed (by kernel_rfl) ?_) | fail))); all_goals (try (conv => whnf)))
    all_goals exact ⟨fun h' hs => ⟨rfl, hg0.trans hs.grows⟩⟩
end Go.Ex
