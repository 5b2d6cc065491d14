/-
  Lines: there and back; the lines are the text; places in order.
-/
import Derived.Test.YtfaiabpmaklgmaaLnF
namespace Go.Ex
open Go.Proofs
set_option linter.unusedVariables false
set_option linter.unusedSimpArgs false
attribute [local irreducible] CallsH

theorem at_facts {s : ByteArray} {off : Int} (ho : 0 ≤ off ∧ off ≤ s.size) : ∃ n, IsLine s off n ∧ atL s off = n ∧ atC s off = off - frB s n + 1 ∧ atE s off = 0 ∧ offOk s n (off - frB s n + 1) := by
  obtain ⟨n, hn⟩ := at_ok ho
  have h1 := hn.lo
  have h2 := hn.hi
  have h3 := hn.ge
  have h4 := hn.le
  exact ⟨n, hn, by rw [atL, if_pos ho, lineN_eq hn], by rw [atC, if_pos ho, lineN_eq hn], by rw [atE, if_pos ho], ⟨h1, h2⟩, by omega, by omega⟩
set_option maxHeartbeats 1000000 in
set_option maxRecDepth 10000 in
theorem back_law (s : ByteArray) (off l c : Int) (h : Heap) (hz : s.size ≤ 1048576) (hc : c ≤ 9223372036854775807) : CallsH Try.prog 7 #[.string s, .int .i64 off, .agg #[.int .i64 l, .int .i64 c]] h fun v h' => v = .bool true ∧ Grows h h' := by
  refine enter (rep := rep) (m := 15) (ex := []) (cu := []) tysOk Try.func7 rfl (by decide) (rs := [.tmp 6]) rfl rfl [.val (.string s), .val (.int .i64 off), .agg [.val (.int .i64 l), .val (.int .i64 c)]] rfl ?_
  have hAt := fun h => at_any s off h hz
  have hOff := fun h => off_any s l c h hz hc
  have second : ∀ P : Prop, (offOk s l c → (0 ≤ offV s l c ∧ offV s l c ≤ s.size) ∧ offE s l c = 0 ∧ atE s (offV s l c) = 0 ∧ atL s (offV s l c) = l ∧ atC s (offV s l c) = c → P) → (¬ offOk s l c → offV s l c = 0 ∧ offE s l c = 1 → P) → P := by
    intro P h1 h2
    by_cases ho : offOk s l c
    · have e1 : offV s l c = frB s l + c - 1 := by rw [offV, if_pos ho]
      have e2 : offE s l c = 0 := by rw [offE, if_pos ho]
      obtain ⟨⟨o1, o2⟩, o3, o4⟩ := ho
      obtain ⟨a1, a2, a3, _, _⟩ := seg_s s l o1 o2
      have hin : 0 ≤ offV s l c ∧ offV s l c ≤ s.size := by rw [e1]; omega
      have hl : IsLine s (offV s l c) l := ⟨o1, o2, by rw [e1]; omega, by rw [e1]; omega⟩
      exact h1 ⟨⟨o1, o2⟩, o3, o4⟩ ⟨hin, e2, by rw [atE, if_pos hin], by rw [atL, if_pos hin, lineN_eq hl], by rw [atC, if_pos hin, lineN_eq hl, e1]; omega⟩
    · exact h2 ho ⟨by rw [offV, if_neg ho], by rw [offE, if_neg ho]⟩
  have hAt2 := fun h => at_any s (offV s l c) h hz
  by_cases ho : 0 ≤ off ∧ off ≤ s.size
  · obtain ⟨n, hn, e1, e2, e3, e4⟩ := at_facts ho
    have hn1 := hn.lo
    have hge := hn.ge
    have hsg := seg_s s n hn.lo hn.hi
    rw [e1, e2, e3] at hAt
    have hB := fun h => off_any s n (off - frB s n + 1) h hz (by omega)
    rw [show offV s n (off - frB s n + 1) = off by rw [offV, if_pos e4]; omega, show offE s n (off - frB s n + 1) = 0 by rw [offE, if_pos e4]] at hB
    generalize frB s n = F at *
    refine second _ (fun hok ⟨q1, q2, q3, q4, q5⟩ => ?_) (fun hok ⟨q1, q2⟩ => ?_)
    · rw [q2] at hOff
      rw [q3, q4, q5] at hAt2
      generalize offV s l c = O at *
      ((repeat' ((conv => whnf); (first | (refine Ar.fit (by first | omega | (simp only [lo, hi]; omega)) ?_) | (refine VC.mk (by (first | omega | rfl | assumption | exact Sl.plain (by assumption) (by omega) | (and_intros <;> first | omega | rfl | assumption | (simp only [List.length_set]; omega) | (simp only [List.length_append, List.length_take, List.length_replicate, List.length_cons, List.length_nil]; omega) | (simp only [ByteArray.size_extract, ByteArray.size_append]; omega) | (simp only [List.length_cons, List.length_nil]; omega) | (simp only [Int.toNat_natCast, Int.toNat_one, List.length_take, List.length_cons, List.length_nil] at *; omega)))) ?_) | (refine Br.mk ?_ ?_ <;> intro hb <;> (try (first | (exfalso; omega) | exact absurd rfl hb | exact Bool.noConfusion hb | exact absurd (fun e => Bool.noConfusion e) hb | (exfalso; simp only [List.length_cons, List.length_nil] at hb; omega) | (exfalso; simp only [Int.toNat_natCast, Int.toNat_one, List.length_take, List.length_cons, List.length_nil] at hb; omega)))) | (refine XLoad.of (by assumption) rfl rfl (by omega) (by omega) rfl ?_) | (refine New.mk ?_; intro b hb) | (refine New2.mk ?_; intro b c hb hbc) | (refine SameR.same ?_) | (refine Two.mk ?_ ?_) | (refine Tri.mk ?_ ?_ ?_) | (refine ed_eql ?_) | (refine ed_neq ?_) | (refine drawn tysOk mixed (by kernel_rfl) ?_) | (apply CallK.pure; (case hh => (intro h1 hs; exact fixed_any _))) | (apply CallK.pure; (case hh => (intro h1 hs; exact hAt _))) | (apply CallK.pure; (case hh => (intro h1 hs; exact hB _))) | (apply CallK.pure; (case hh => (intro h1 hs; exact hOff _))) | (apply CallK.pure; (case hh => (intro h1 hs; exact hAt2 _))) | fail))); all_goals (try (conv => whnf)))
      all_goals exact ⟨fun h' hs => ⟨prop_true (by first | rfl | exact ⟨rfl, rfl⟩), hs.grows⟩⟩
    · rw [q1, q2] at hOff
      ((repeat' ((conv => whnf); (first | (refine Ar.fit (by first | omega | (simp only [lo, hi]; omega)) ?_) | (refine VC.mk (by (first | omega | rfl | assumption | exact Sl.plain (by assumption) (by omega) | (and_intros <;> first | omega | rfl | assumption | (simp only [List.length_set]; omega) | (simp only [List.length_append, List.length_take, List.length_replicate, List.length_cons, List.length_nil]; omega) | (simp only [ByteArray.size_extract, ByteArray.size_append]; omega) | (simp only [List.length_cons, List.length_nil]; omega) | (simp only [Int.toNat_natCast, Int.toNat_one, List.length_take, List.length_cons, List.length_nil] at *; omega)))) ?_) | (refine Br.mk ?_ ?_ <;> intro hb <;> (try (first | (exfalso; omega) | exact absurd rfl hb | exact Bool.noConfusion hb | exact absurd (fun e => Bool.noConfusion e) hb | (exfalso; simp only [List.length_cons, List.length_nil] at hb; omega) | (exfalso; simp only [Int.toNat_natCast, Int.toNat_one, List.length_take, List.length_cons, List.length_nil] at hb; omega)))) | (refine XLoad.of (by assumption) rfl rfl (by omega) (by omega) rfl ?_) | (refine New.mk ?_; intro b hb) | (refine New2.mk ?_; intro b c hb hbc) | (refine SameR.same ?_) | (refine Two.mk ?_ ?_) | (refine Tri.mk ?_ ?_ ?_) | (refine ed_eql ?_) | (refine ed_neq ?_) | (refine drawn tysOk mixed (by kernel_rfl) ?_) | (apply CallK.pure; (case hh => (intro h1 hs; exact fixed_any _))) | (apply CallK.pure; (case hh => (intro h1 hs; exact hAt _))) | (apply CallK.pure; (case hh => (intro h1 hs; exact hB _))) | (apply CallK.pure; (case hh => (intro h1 hs; exact hOff _))) | fail))); all_goals (try (conv => whnf)))
      all_goals exact ⟨fun h' hs => ⟨prop_true (by first | rfl | exact ⟨rfl, rfl⟩), hs.grows⟩⟩
  · have e1 : atL s off = 0 := by rw [atL, if_neg ho]
    have e2 : atC s off = 0 := by rw [atC, if_neg ho]
    have e3 : atE s off = 1 := by rw [atE, if_neg ho]
    rw [e1, e2, e3] at hAt
    refine second _ (fun hok ⟨q1, q2, q3, q4, q5⟩ => ?_) (fun hok ⟨q1, q2⟩ => ?_)
    · rw [q2] at hOff
      rw [q3, q4, q5] at hAt2
      generalize offV s l c = O at *
      ((repeat' ((conv => whnf); (first | (refine Ar.fit (by first | omega | (simp only [lo, hi]; omega)) ?_) | (refine VC.mk (by (first | omega | rfl | assumption | exact Sl.plain (by assumption) (by omega) | (and_intros <;> first | omega | rfl | assumption | (simp only [List.length_set]; omega) | (simp only [List.length_append, List.length_take, List.length_replicate, List.length_cons, List.length_nil]; omega) | (simp only [ByteArray.size_extract, ByteArray.size_append]; omega) | (simp only [List.length_cons, List.length_nil]; omega) | (simp only [Int.toNat_natCast, Int.toNat_one, List.length_take, List.length_cons, List.length_nil] at *; omega)))) ?_) | (refine Br.mk ?_ ?_ <;> intro hb <;> (try (first | (exfalso; omega) | exact absurd rfl hb | exact Bool.noConfusion hb | exact absurd (fun e => Bool.noConfusion e) hb | (exfalso; simp only [List.length_cons, List.length_nil] at hb; omega) | (exfalso; simp only [Int.toNat_natCast, Int.toNat_one, List.length_take, List.length_cons, List.length_nil] at hb; omega)))) | (refine XLoad.of (by assumption) rfl rfl (by omega) (by omega) rfl ?_) | (refine New.mk ?_; intro b hb) | (refine New2.mk ?_; intro b c hb hbc) | (refine SameR.same ?_) | (refine Two.mk ?_ ?_) | (refine Tri.mk ?_ ?_ ?_) | (refine ed_eql ?_) | (refine ed_neq ?_) | (refine drawn tysOk mixed (by kernel_rfl) ?_) | (apply CallK.pure; (case hh => (intro h1 hs; exact fixed_any _))) | (apply CallK.pure; (case hh => (intro h1 hs; exact hAt _))) | (apply CallK.pure; (case hh => (intro h1 hs; exact hOff _))) | (apply CallK.pure; (case hh => (intro h1 hs; exact hAt2 _))) | fail))); all_goals (try (conv => whnf)))
      all_goals exact ⟨fun h' hs => ⟨prop_true (by first | rfl | exact ⟨rfl, rfl⟩), hs.grows⟩⟩
    · rw [q1, q2] at hOff
      ((repeat' ((conv => whnf); (first | (refine Ar.fit (by first | omega | (simp only [lo, hi]; omega)) ?_) | (refine VC.mk (by (first | omega | rfl | assumption | exact Sl.plain (by assumption) (by omega) | (and_intros <;> first | omega | rfl | assumption | (simp only [List.length_set]; omega) | (simp only [List.length_append, List.length_take, List.length_replicate, List.length_cons, List.length_nil]; omega) | (simp only [ByteArray.size_extract, ByteArray.size_append]; omega) | (simp only [List.length_cons, List.length_nil]; omega) | (simp only [Int.toNat_natCast, Int.toNat_one, List.length_take, List.length_cons, List.length_nil] at *; omega)))) ?_) | (refine Br.mk ?_ ?_ <;> intro hb <;> (try (first | (exfalso; omega) | exact absurd rfl hb | exact Bool.noConfusion hb | exact absurd (fun e => Bool.noConfusion e) hb | (exfalso; simp only [List.length_cons, List.length_nil] at hb; omega) | (exfalso; simp only [Int.toNat_natCast, Int.toNat_one, List.length_take, List.length_cons, List.length_nil] at hb; omega)))) | (refine XLoad.of (by assumption) rfl rfl (by omega) (by omega) rfl ?_) | (refine New.mk ?_; intro b hb) | (refine New2.mk ?_; intro b c hb hbc) | (refine SameR.same ?_) | (refine Two.mk ?_ ?_) | (refine Tri.mk ?_ ?_ ?_) | (refine ed_eql ?_) | (refine ed_neq ?_) | (refine drawn tysOk mixed (by kernel_rfl) ?_) | (apply CallK.pure; (case hh => (intro h1 hs; exact fixed_any _))) | (apply CallK.pure; (case hh => (intro h1 hs; exact hAt _))) | (apply CallK.pure; (case hh => (intro h1 hs; exact hOff _))) | fail))); all_goals (try (conv => whnf)))
      all_goals exact ⟨fun h' hs => ⟨prop_true (by first | rfl | exact ⟨rfl, rfl⟩), hs.grows⟩⟩
theorem bool_eqlV {b : Bool} {q : Prop} {κ : KV → Prop} (h : κ (.prop (b = true ↔ q))) : EqK Try.prog .eql 4 (.val (.bool b)) (.prop q) κ := ⟨_, fun u v w => by
  cases b <;> by_cases hq : q <;> simp [den, den1, denC, eqGuard, binOp, hq, run_equal_bool _ _ _ _ Try.underlying4], h⟩
theorem line_lt {s : ByteArray} {a b n m : Int} (h : IsLine s a n) (h' : IsLine s b m) (hlt : n < m) : a < b := by
  have h1 := fr_mono s (m - (n + 1)).toNat (n + 1) (by have := h.lo; omega) (by have := h'.hi; omega)
  rw [show n + 1 + (((m - (n + 1)).toNat : Nat) : Int) = m by omega, fr_next s n h.lo (by have := h'.hi; omega)] at h1
  have := h.le; have := h'.ge; omega
set_option maxHeartbeats 1000000 in
set_option maxRecDepth 10000 in
theorem order_law (s : ByteArray) (a b : Int) (h : Heap) (hz : s.size ≤ 1048576) : CallsH Try.prog 9 #[.string s, .int .i64 a, .int .i64 b] h fun v h' => v = .bool true ∧ Grows h h' := by
  refine enter (rep := rep) (m := 12) (ex := []) (cu := []) tysOk Try.func9 rfl (by decide) (rs := [.tmp 6]) rfl rfl [.val (.string s), .val (.int .i64 a), .val (.int .i64 b)] rfl ?_
  have hA := fun h => at_any s a h hz
  have hB := fun h => at_any s b h hz
  by_cases ha : 0 ≤ a ∧ a ≤ s.size
  · by_cases hb' : 0 ≤ b ∧ b ≤ s.size
    · obtain ⟨n, hn, e1, e2, e3, _⟩ := at_facts ha
      obtain ⟨m, hm, f1, f2, f3, _⟩ := at_facts hb'
      rw [e1, e2, e3] at hA
      rw [f1, f2, f3] at hB
      have l1 := fun h => line_lt hn hm h
      have l2 := fun h => line_lt hm hn h
      have l3 : n = m → frB s n = frB s m := fun h => by rw [h]
      generalize frB s n = F at *
      generalize frB s m = G at *
      ((repeat' ((conv => whnf); (first | (refine Ar.fit (by first | omega | (simp only [lo, hi]; omega)) ?_) | (refine VC.mk (by (first | omega | rfl | assumption | exact Sl.plain (by assumption) (by omega) | (and_intros <;> first | omega | rfl | assumption | (simp only [List.length_set]; omega) | (simp only [List.length_append, List.length_take, List.length_replicate, List.length_cons, List.length_nil]; omega) | (simp only [ByteArray.size_extract, ByteArray.size_append]; omega) | (simp only [List.length_cons, List.length_nil]; omega) | (simp only [Int.toNat_natCast, Int.toNat_one, List.length_take, List.length_cons, List.length_nil] at *; omega)))) ?_) | (refine Br.mk ?_ ?_ <;> intro hb <;> (try (first | (exfalso; omega) | exact absurd rfl hb | exact Bool.noConfusion hb | exact absurd (fun e => Bool.noConfusion e) hb | (exfalso; simp only [List.length_cons, List.length_nil] at hb; omega) | (exfalso; simp only [Int.toNat_natCast, Int.toNat_one, List.length_take, List.length_cons, List.length_nil] at hb; omega)))) | (refine XLoad.of (by assumption) rfl rfl (by omega) (by omega) rfl ?_) | (refine New.mk ?_; intro b hb) | (refine New2.mk ?_; intro b c hb hbc) | (refine SameR.same ?_) | (refine Two.mk ?_ ?_) | (refine Tri.mk ?_ ?_ ?_) | (refine ed_eql ?_) | (refine ed_neq ?_) | (refine drawn tysOk mixed (by kernel_rfl) ?_) | (apply CallK.pure; (case hh => (intro h1 hs; exact fixed_any _))) | (apply CallK.pure; (case hh => (intro h1 hs; exact hA _))) | (apply CallK.pure; (case hh => (intro h1 hs; exact hB _))) | fail))); all_goals (try (conv => whnf)))
      all_goals (first | refine bool_eql ?_ | refine bool_eqlV ?_)
      all_goals (conv => whnf)
      all_goals exact ⟨fun h' hs => ⟨prop_true (by first | omega | (simp only [true_iff, Bool.false_eq_true, false_iff, eq_self_iff_true]; omega)), hs.grows⟩⟩
    · have e3 : atE s b = 1 := by rw [atE, if_neg hb']
      rw [e3] at hB
      ((repeat' ((conv => whnf); (first | (refine Ar.fit (by first | omega | (simp only [lo, hi]; omega)) ?_) | (refine VC.mk (by (first | omega | rfl | assumption | exact Sl.plain (by assumption) (by omega) | (and_intros <;> first | omega | rfl | assumption | (simp only [List.length_set]; omega) | (simp only [List.length_append, List.length_take, List.length_replicate, List.length_cons, List.length_nil]; omega) | (simp only [ByteArray.size_extract, ByteArray.size_append]; omega) | (simp only [List.length_cons, List.length_nil]; omega) | (simp only [Int.toNat_natCast, Int.toNat_one, List.length_take, List.length_cons, List.length_nil] at *; omega)))) ?_) | (refine Br.mk ?_ ?_ <;> intro hb <;> (try (first | (exfalso; omega) | exact absurd rfl hb | exact Bool.noConfusion hb | exact absurd (fun e => Bool.noConfusion e) hb | (exfalso; simp only [List.length_cons, List.length_nil] at hb; omega) | (exfalso; simp only [Int.toNat_natCast, Int.toNat_one, List.length_take, List.length_cons, List.length_nil] at hb; omega)))) | (refine XLoad.of (by assumption) rfl rfl (by omega) (by omega) rfl ?_) | (refine New.mk ?_; intro b hb) | (refine New2.mk ?_; intro b c hb hbc) | (refine SameR.same ?_) | (refine Two.mk ?_ ?_) | (refine Tri.mk ?_ ?_ ?_) | (refine ed_eql ?_) | (refine ed_neq ?_) | (refine drawn tysOk mixed (by kernel_rfl) ?_) | (apply CallK.pure; (case hh => (intro h1 hs; exact fixed_any _))) | (apply CallK.pure; (case hh => (intro h1 hs; exact hA _))) | (apply CallK.pure; (case hh => (intro h1 hs; exact hB _))) | fail))); all_goals (try (conv => whnf)))
      all_goals exact ⟨fun h' hs => ⟨prop_true rfl, hs.grows⟩⟩
  · have e3 : atE s a = 1 := by rw [atE, if_neg ha]
    rw [e3] at hA
    ((repeat' ((conv => whnf); (first | (refine Ar.fit (by first | omega | (simp only [lo, hi]; omega)) ?_) | (refine VC.mk (by (first | omega | rfl | assumption | exact Sl.plain (by assumption) (by omega) | (and_intros <;> first | omega | rfl | assumption | (simp only [List.length_set]; omega) | (simp only [List.length_append, List.length_take, List.length_replicate, List.length_cons, List.length_nil]; omega) | (simp only [ByteArray.size_extract, ByteArray.size_append]; omega) | (simp only [List.length_cons, List.length_nil]; omega) | (simp only [Int.toNat_natCast, Int.toNat_one, List.length_take, List.length_cons, List.length_nil] at *; omega)))) ?_) | (refine Br.mk ?_ ?_ <;> intro hb <;> (try (first | (exfalso; omega) | exact absurd rfl hb | exact Bool.noConfusion hb | exact absurd (fun e => Bool.noConfusion e) hb | (exfalso; simp only [List.length_cons, List.length_nil] at hb; omega) | (exfalso; simp only [Int.toNat_natCast, Int.toNat_one, List.length_take, List.length_cons, List.length_nil] at hb; omega)))) | (refine XLoad.of (by assumption) rfl rfl (by omega) (by omega) rfl ?_) | (refine New.mk ?_; intro b hb) | (refine New2.mk ?_; intro b c hb hbc) | (refine SameR.same ?_) | (refine Two.mk ?_ ?_) | (refine Tri.mk ?_ ?_ ?_) | (refine ed_eql ?_) | (refine ed_neq ?_) | (refine drawn tysOk mixed (by kernel_rfl) ?_) | (apply CallK.pure; (case hh => (intro h1 hs; exact fixed_any _))) | (apply CallK.pure; (case hh => (intro h1 hs; exact hA _))) | (apply CallK.pure; (case hh => (intro h1 hs; exact hB _))) | fail))); all_goals (try (conv => whnf)))
    all_goals exact ⟨fun h' hs => ⟨prop_true rfl, hs.grows⟩⟩
/-- the lines up to n -/
def upTo (s : ByteArray) (n : Int) : ByteArray := s.extract 0 (toB s n).toNat
theorem up_step (s : ByteArray) (n : Int) (h1 : 1 ≤ n) (h2 : n < LL s) : (upTo s n ++ ⟨#[10]⟩) ++ lineT s (n + 1) = upTo s (n + 1) := by
  obtain ⟨a1, a2, a3, a4, a5⟩ := seg_s s n h1 (by omega)
  obtain ⟨b1, b2⟩ := a5 h2
  have h3 := fr_next s n h1 h2
  obtain ⟨c1, c2, c3, _, _⟩ := seg_s s (n + 1) (by omega) (by omega)
  rw [lineT, if_pos ⟨by omega, by omega⟩]
  refine byl_inj ?_
  simp only [upTo, byl_append, byl_extract, List.drop_zero]
  rw [h3]
  generalize toB s n = a at *
  generalize toB s (n + 1) = e at *
  rw [byteI_eq] at b2
  have e10 : byl (⟨#[10]⟩ : ByteArray) = [10] := rfl
  rw [e10]
  have hs2 : (byl s).take e.toNat = (byl s).take a.toNat ++ ((byl s).take e.toNat).drop a.toNat := by
    conv => lhs; rw [← List.take_append_drop a.toNat ((byl s).take e.toNat)]
    rw [List.take_take, Nat.min_eq_left (by omega)]
  have hd : ((byl s).take e.toNat).drop a.toNat = getI 0 ((byl s).take e.toNat) a :: ((byl s).take e.toNat).drop (a + 1).toNat := drop_get 0 _ a (by omega) (by rw [List.length_take, byl_len]; omega)
  have hg : getI 0 ((byl s).take e.toNat) a = 10 := by
    rw [← b2]
    simp only [getI, List.getD]
    rw [List.getElem?_take_of_lt (by omega)]
  conv => rhs; rw [hs2, hd, hg]
  simp
set_option maxHeartbeats 1000000 in
set_option maxRecDepth 10000 in
theorem whole_law (s : ByteArray) (h : Heap) : CallsH Try.prog 8 #[.string s] h fun v h' => v = .bool true ∧ Grows h h' := by
  refine enter (rep := rep) (m := 7) (ex := []) (cu := []) tysOk Try.func8 rfl (by decide) (rs := [.tmp 2]) rfl rfl [.val (.string s)] rfl ?_
  by_cases h4 : (s.size : Int) ≤ 4000
  · have hz : s.size ≤ 1048576 := by omega
    have hll := starts_len s
    have hl1 : 1 ≤ LL s := by simp only [LL, startsF, List.length_cons]; omega
    have hCt := fun h => count_any s h hz
    rw [show ((startsF s).length : Int) = LL s from rfl] at hCt
    have hLd : LL s = ((startsF s).length : Int) := rfl
    obtain ⟨N, hN⟩ : ∃ N, N = LL s := ⟨_, rfl⟩
    rw [← hN] at hCt hl1 hLd
    ((repeat' ((conv => whnf); (first | (refine Ar.fit (by first | omega | (simp only [lo, hi]; omega)) ?_) | (refine VC.mk (by (first | omega | rfl | assumption | exact Sl.plain (by assumption) (by omega) | (and_intros <;> first | omega | rfl | assumption | (simp only [List.length_set]; omega) | (simp only [List.length_append, List.length_take, List.length_replicate, List.length_cons, List.length_nil]; omega) | (simp only [ByteArray.size_extract, ByteArray.size_append]; omega) | (simp only [List.length_cons, List.length_nil]; omega) | (simp only [Int.toNat_natCast, Int.toNat_one, List.length_take, List.length_cons, List.length_nil] at *; omega)))) ?_) | (refine Br.mk ?_ ?_ <;> intro hb <;> (try (first | (exfalso; omega) | exact absurd rfl hb | exact Bool.noConfusion hb | exact absurd (fun e => Bool.noConfusion e) hb | (exfalso; simp only [List.length_cons, List.length_nil] at hb; omega) | (exfalso; simp only [Int.toNat_natCast, Int.toNat_one, List.length_take, List.length_cons, List.length_nil] at hb; omega)))) | (refine XLoad.of (by assumption) rfl rfl (by omega) (by omega) rfl ?_) | (refine New.mk ?_; intro b hb) | (refine New2.mk ?_; intro b c hb hbc) | (refine SameR.same ?_) | (refine Two.mk ?_ ?_) | (refine Tri.mk ?_ ?_ ?_) | (refine ed_eql ?_) | (refine ed_neq ?_) | (refine drawn tysOk mixed (by kernel_rfl) ?_) | (apply CallK.pure; (case hh => (intro h1 hs; exact fixed_any _))) | fail))); all_goals (try (conv => whnf)))
    refine loop_rule tysOk [3, 4] (fun x : ByteArray × Int => [(3, .val (.string x.1)), (4, .val (.int .i64 x.2))]) (fun _ => []) (fun μ x => 1 ≤ x.2 ∧ x.2 ≤ N + 1 ∧ μ = (N + 1 - x.2).toNat ∧ (x.2 = 1 → x.1 = ⟨#[]⟩) ∧ (1 < x.2 → x.1 = upTo s (x.2 - 1))) N.toNat (⟨#[]⟩, 1) ?_
    conv => whnf
    refine ⟨by ((repeat (refine ⟨rfl, ?_⟩)); trivial), trivial, ⟨by simp, by dsimp only; omega, by dsimp only; omega, fun _ => rfl, fun h => by dsimp only at h; omega⟩, ?_⟩
    rintro μ ⟨t, n⟩ ⟨a0, a1, a2, a3, a4⟩
    dsimp only at a0 a1 a2 a3 a4 ⊢
    by_cases hn : n ≤ N
    · have hLn := fun h => line_any s n h hz
      rw [show lineE s n = 0 by rw [lineE, if_pos (by omega)]] at hLn
      have hsz := lineT_size s n (by omega)
      obtain ⟨b1, b2, b3, _, _⟩ := seg_s s n (by omega) (by omega)
      by_cases h1 : n = 1
      · have a3 := a3 h1
        subst a3
        have hT : (⟨#[]⟩ : ByteArray) ++ lineT s n = upTo s n := by
          subst h1
          rw [lineT, if_pos (by omega), fr_first]
          refine byl_inj ?_
          rw [byl_append]; rfl
        have hs0 : (⟨#[]⟩ : ByteArray).size = 0 := rfl
        ((repeat' ((conv => whnf); (first | (refine Ar.fit (by first | omega | (simp only [lo, hi]; omega)) ?_) | (refine VC.mk (by (first | omega | rfl | assumption | exact Sl.plain (by assumption) (by omega) | (and_intros <;> first | omega | rfl | assumption | (simp only [List.length_set]; omega) | (simp only [List.length_append, List.length_take, List.length_replicate, List.length_cons, List.length_nil]; omega) | (simp only [ByteArray.size_extract, ByteArray.size_append]; omega) | (simp only [List.length_cons, List.length_nil]; omega) | (simp only [Int.toNat_natCast, Int.toNat_one, List.length_take, List.length_cons, List.length_nil] at *; omega)))) ?_) | (refine Br.mk ?_ ?_ <;> intro hb <;> (try (first | (exfalso; omega) | exact absurd rfl hb | exact Bool.noConfusion hb | exact absurd (fun e => Bool.noConfusion e) hb | (exfalso; simp only [List.length_cons, List.length_nil] at hb; omega) | (exfalso; simp only [Int.toNat_natCast, Int.toNat_one, List.length_take, List.length_cons, List.length_nil] at hb; omega)))) | (refine XLoad.of (by assumption) rfl rfl (by omega) (by omega) rfl ?_) | (refine New.mk ?_; intro b hb) | (refine New2.mk ?_; intro b c hb hbc) | (refine SameR.same ?_) | (refine Two.mk ?_ ?_) | (refine Tri.mk ?_ ?_ ?_) | (refine ed_eql ?_) | (refine ed_neq ?_) | (refine drawn tysOk mixed (by kernel_rfl) ?_) | (apply CallK.pure; (case hh => (intro h1 hs; exact fixed_any _))) | (apply CallK.pure; (case hh => (intro h1 hs; exact hCt _))) | (apply CallK.pure; (case hh => (intro h1 hs; exact hLn _))) | fail))); all_goals (try (conv => whnf)))
        refine ⟨μ - 1, ⟨⟨#[]⟩ ++ lineT s n, n + 1⟩, ⟨by dsimp only; omega, by dsimp only; omega, by dsimp only; omega, fun h => by dsimp only at h; omega, fun _ => ?_⟩, by omega, by ((repeat (refine ⟨rfl, ?_⟩)); trivial), rfl, rfl, trivial⟩
        dsimp only
        rw [hT, show n + 1 - 1 = n by omega]
      · have a4 := a4 (by omega)
        subst a4
        have hT := up_step s (n - 1) (by omega) (by omega)
        rw [show n - 1 + 1 = n by omega] at hT
        obtain ⟨c1, c2, c3, _, _⟩ := seg_s s (n - 1) (by omega) (by omega)
        have hus : ((upTo s (n - 1)).size : Int) = toB s (n - 1) := by simp only [upTo, ByteArray.size_extract]; omega
        have hs1 : (⟨#[10]⟩ : ByteArray).size = 1 := rfl
        ((repeat' ((conv => whnf); (first | (refine Ar.fit (by first | omega | (simp only [lo, hi]; omega)) ?_) | (refine VC.mk (by (first | omega | rfl | assumption | exact Sl.plain (by assumption) (by omega) | (and_intros <;> first | omega | rfl | assumption | (simp only [List.length_set]; omega) | (simp only [List.length_append, List.length_take, List.length_replicate, List.length_cons, List.length_nil]; omega) | (simp only [ByteArray.size_extract, ByteArray.size_append]; omega) | (simp only [List.length_cons, List.length_nil]; omega) | (simp only [Int.toNat_natCast, Int.toNat_one, List.length_take, List.length_cons, List.length_nil] at *; omega)))) ?_) | (refine Br.mk ?_ ?_ <;> intro hb <;> (try (first | (exfalso; omega) | exact absurd rfl hb | exact Bool.noConfusion hb | exact absurd (fun e => Bool.noConfusion e) hb | (exfalso; simp only [List.length_cons, List.length_nil] at hb; omega) | (exfalso; simp only [Int.toNat_natCast, Int.toNat_one, List.length_take, List.length_cons, List.length_nil] at hb; omega)))) | (refine XLoad.of (by assumption) rfl rfl (by omega) (by omega) rfl ?_) | (refine New.mk ?_; intro b hb) | (refine New2.mk ?_; intro b c hb hbc) | (refine SameR.same ?_) | (refine Two.mk ?_ ?_) | (refine Tri.mk ?_ ?_ ?_) | (refine ed_eql ?_) | (refine ed_neq ?_) | (refine drawn tysOk mixed (by kernel_rfl) ?_) | (apply CallK.pure; (case hh => (intro h1 hs; exact fixed_any _))) | (apply CallK.pure; (case hh => (intro h1 hs; exact hCt _))) | (apply CallK.pure; (case hh => (intro h1 hs; exact hLn _))) | fail))); all_goals (try (conv => whnf)))
        refine ⟨μ - 1, ⟨(upTo s (n - 1) ++ ⟨#[10]⟩) ++ lineT s n, n + 1⟩, ⟨by dsimp only; omega, by dsimp only; omega, by dsimp only; omega, fun h => by dsimp only at h; omega, fun _ => ?_⟩, by omega, by ((repeat (refine ⟨rfl, ?_⟩)); trivial), rfl, rfl, trivial⟩
        dsimp only
        rw [hT, show n + 1 - 1 = n by omega]
    · have a4 := a4 (by omega)
      have hT : upTo s (n - 1) = s := by
        rw [upTo, toB, if_pos (by omega)]
        refine byl_inj ?_
        rw [byl_extract, List.drop_zero, List.take_of_length_le (by rw [byl_len]; omega)]
      rw [hT] at a4
      subst a4
      ((repeat' ((conv => whnf); (first | (refine Ar.fit (by first | omega | (simp only [lo, hi]; omega)) ?_) | (refine VC.mk (by (first | omega | rfl | assumption | exact Sl.plain (by assumption) (by omega) | (and_intros <;> first | omega | rfl | assumption | (simp only [List.length_set]; omega) | (simp only [List.length_append, List.length_take, List.length_replicate, List.length_cons, List.length_nil]; omega) | (simp only [ByteArray.size_extract, ByteArray.size_append]; omega) | (simp only [List.length_cons, List.length_nil]; omega) | (simp only [Int.toNat_natCast, Int.toNat_one, List.length_take, List.length_cons, List.length_nil] at *; omega)))) ?_) | (refine Br.mk ?_ ?_ <;> intro hb <;> (try (first | (exfalso; omega) | exact absurd rfl hb | exact Bool.noConfusion hb | exact absurd (fun e => Bool.noConfusion e) hb | (exfalso; simp only [List.length_cons, List.length_nil] at hb; omega) | (exfalso; simp only [Int.toNat_natCast, Int.toNat_one, List.length_take, List.length_cons, List.length_nil] at hb; omega)))) | (refine XLoad.of (by assumption) rfl rfl (by omega) (by omega) rfl ?_) | (refine New.mk ?_; intro b hb) | (refine New2.mk ?_; intro b c hb hbc) | (refine SameR.same ?_) | (refine Two.mk ?_ ?_) | (refine Tri.mk ?_ ?_ ?_) | (refine ed_eql ?_) | (refine ed_neq ?_) | (refine drawn tysOk mixed (by kernel_rfl) ?_) | (apply CallK.pure; (case hh => (intro h1 hs; exact fixed_any _))) | (apply CallK.pure; (case hh => (intro h1 hs; exact hCt _))) | fail))); all_goals (try (conv => whnf)))
      exact ⟨fun h' hs => ⟨prop_true rfl, hs.grows⟩⟩
  · ((repeat' ((conv => whnf); (first | (refine Ar.fit (by first | omega | (simp only [lo, hi]; omega)) ?_) | (refine VC.mk (by (first | omega | rfl | assumption | exact Sl.plain (by assumption) (by omega) | (and_intros <;> first | omega | rfl | assumption | (simp only [List.length_set]; omega) | (simp only [List.length_append, List.length_take, List.length_replicate, List.length_cons, List.length_nil]; omega) | (simp only [ByteArray.size_extract, ByteArray.size_append]; omega) | (simp only [List.length_cons, List.length_nil]; omega) | (simp only [Int.toNat_natCast, Int.toNat_one, List.length_take, List.length_cons, List.length_nil] at *; omega)))) ?_) | (refine Br.mk ?_ ?_ <;> intro hb <;> (try (first | (exfalso; omega) | exact absurd rfl hb | exact Bool.noConfusion hb | exact absurd (fun e => Bool.noConfusion e) hb | (exfalso; simp only [List.length_cons, List.length_nil] at hb; omega) | (exfalso; simp only [Int.toNat_natCast, Int.toNat_one, List.length_take, List.length_cons, List.length_nil] at hb; omega)))) | (refine XLoad.of (by assumption) rfl rfl (by omega) (by omega) rfl ?_) | (refine New.mk ?_; intro b hb) | (refine New2.mk ?_; intro b c hb hbc) | (refine SameR.same ?_) | (refine Two.mk ?_ ?_) | (refine Tri.mk ?_ ?_ ?_) | (refine ed_eql ?_) | (refine ed_neq ?_) | (refine drawn tysOk mixed (by kernel_rfl) ?_) | (apply CallK.pure; (case hh => (intro h1 hs; exact fixed_any _))) | fail))); all_goals (try (conv => whnf)))
    all_goals exact ⟨fun h' hs => ⟨prop_true rfl, hs.grows⟩⟩
end Go.Ex
