/-
  Span: edits made less.
-/
import Derived.Test.YtckodkjaiopmoaaSpE
namespace Go.Ex
open Go.Proofs
set_option linter.unusedVariables false

def lcp : List Int → List Int → Nat
  | x :: a, y :: b => if x = y then lcp a b + 1 else 0
  | _, _ => 0
theorem byl_inj {a b : ByteArray} (h : byl a = byl b) : a = b := by
  refine ByteArray.ext (Array.ext' ?_)
  have : ∀ (x y : List UInt8), x.map (fun b => (b.toNat : Int)) = y.map (fun b => (b.toNat : Int)) → x = y := by
    intro x
    induction x with
    | nil => intro y h; cases y with
      | nil => rfl
      | cons c y => simp at h
    | cons c x ih => intro y h; cases y with
      | nil => simp at h
      | cons d y =>
        simp only [List.map_cons, List.cons.injEq] at h
        have h1 : c = d := UInt8.toNat_inj.1 (by omega)
        rw [h1, ih y h.2]
  exact this _ _ h
theorem byl_extract (s : ByteArray) (i j : Nat) : byl (s.extract i j) = ((byl s).take j).drop i := by
  simp [byl, ByteArray.data_extract, Array.toList_extract, List.extract_eq_take_drop, List.map_take, List.map_drop, List.drop_take]
theorem byl_append (s t : ByteArray) : byl (s ++ t) = byl s ++ byl t := by simp [byl]
theorem byteI_eq (s : ByteArray) (i : Int) : byteI s i = getI 0 (byl s) i := by
  simp only [byteI, getI, byl, List.getD]
  rw [List.getElem?_map]
  cases s.data.toList[i.toNat]? <;> rfl
theorem lcp_le : ∀ (a b : List Int), lcp a b ≤ a.length ∧ lcp a b ≤ b.length
  | x :: a, y :: b => by
    simp only [lcp]
    split
    · have := lcp_le a b; simp; omega
    · simp
  | [], b => by simp [lcp]
  | x :: a, [] => by simp [lcp]
/-- the common beginning of what stands behind i -/
theorem lcp_step (a b : List Int) (k : Int) (h0 : 0 ≤ k) : lcp (a.drop k.toNat) (b.drop k.toNat) = if k < a.length ∧ k < b.length ∧ getI 0 a k = getI 0 b k then lcp (a.drop (k + 1).toNat) (b.drop (k + 1).toNat) + 1 else 0 := by
  by_cases h1 : k < a.length
  · by_cases h2 : k < b.length
    · rw [drop_get 0 a k h0 h1, drop_get 0 b k h0 h2]
      simp only [lcp]
      by_cases h3 : getI 0 a k = getI 0 b k
      · rw [if_pos h3, if_pos ⟨h1, h2, h3⟩]
      · rw [if_neg h3, if_neg (fun h => h3 h.2.2)]
    · rw [drop_all b k h2, if_neg (fun h => h2 h.2.1)]
      cases a.drop k.toNat <;> rfl
  · rw [drop_all a k h1, if_neg (fun h => h1 h.1)]
    rfl
/-- an edit made less -/
def trP (o u : ByteArray) : Nat := lcp (byl o) (byl u)
def trQ (o u : ByteArray) : Nat := lcp (byl (o.extract (trP o u) o.size)).reverse (byl (u.extract (trP o u) u.size)).reverse
def trimF (s : ByteArray) (x : Ed) : Ed :=
  let o := s.extract x.f.toNat x.t.toNat
  let u1 := x.s.extract (trP o x.s) x.s.size
  ⟨x.f + trP o x.s, x.t - trQ o x.s, u1.extract 0 (u1.size - trQ o x.s)⟩
theorem get_rev (a : List Int) (k : Int) (h0 : 0 ≤ k) (h1 : k < a.length) : getI 0 a (a.length - 1 - k) = getI 0 a.reverse k := by
  simp only [getI, List.getD]
  rw [List.getElem?_reverse (by omega)]
  congr 2
  omega
set_option maxRecDepth 10000 in
theorem trimmed_any (s : ByteArray) (x : Ed) (h : Heap) (hx : 0 ≤ x.f ∧ x.f ≤ x.t ∧ x.t ≤ s.size) (hs : s.size ≤ 140737488355328) (hS : x.s.size ≤ 140737488355328) :
    CallsH Try.prog 28 #[.string s, .agg #[.int .i64 x.f, .int .i64 x.t, .string x.s]] h fun v h' => v = .agg #[.int .i64 (trimF s x).f, .int .i64 (trimF s x).t, .string (trimF s x).s] ∧ Grows h h' := by
  refine enter (rep := rep) (m := 7) (ex := []) (cu := []) tysOk Try.func28 rfl (by decide) (rs := [.cell 4 36]) rfl rfl [.val (.string s), .agg [.val (.int .i64 x.f), .val (.int .i64 x.t), .val (.string x.s)]] rfl ?_
  obtain ⟨f, t, u⟩ := x
  dsimp only at hx hS ⊢
  obtain ⟨o, ho⟩ : ∃ o, s.extract f.toNat t.toNat = o := ⟨_, rfl⟩
  have hol : (o.size : Int) = t - f := by rw [← ho, ByteArray.size_extract]; omega
  ((repeat' ((conv => whnf); (first | (refine Ar.fit (by omega) ?_) | (refine VC.mk (by (first | omega | rfl | assumption | exact Sl.plain (by assumption) (by omega) | (and_intros <;> first | omega | rfl | assumption | (simp only [List.length_set]; omega) | (simp only [ByteArray.size_extract, ByteArray.size_append]; omega) | (simp only [List.length_cons, List.length_nil]; omega) | (simp only [Int.toNat_natCast, Int.toNat_one, List.length_take, List.length_cons, List.length_nil] at *; omega)))) ?_) | (refine Br.mk ?_ ?_ <;> intro hb <;> (try (first | (exfalso; omega) | exact absurd rfl hb | exact Bool.noConfusion hb | exact absurd (fun e => Bool.noConfusion e) hb | (exfalso; simp only [List.length_cons, List.length_nil] at hb; omega) | (exfalso; simp only [Int.toNat_natCast, Int.toNat_one, List.length_take, List.length_cons, List.length_nil] at hb; omega)))) | (refine XLoad.of (by assumption) rfl rfl (by omega) (by omega) rfl ?_) | (refine New.mk ?_; intro b hb) | (refine New2.mk ?_; intro b c hb hbc) | (refine SameR.same ?_) | (refine Two.mk ?_ ?_) | (refine ed_eql ?_) | (refine ed_neq ?_) | (refine drawn tysOk mixed (by kernel_rfl) ?_) | fail))); all_goals (try (conv => whnf)))
  rename_i b3 hb3
  obtain ⟨b4, hb4⟩ : ∃ b4, b4 = b := ⟨_, rfl⟩
  subst hb4
  rw [ho]
  refine loop_cut tysOk [6] (fun k : Int => [(6, .val (.int .i64 k))]) (fun _ => [(4, b4, .box 36 [.val (.int .i64 0), .val (.int .i64 0), .val (.string ⟨#[]⟩)]), (3, b3, .box 36 [.val (.int .i64 f), .val (.int .i64 t), .val (.string u)])])
    (fun μ k => 0 ≤ k ∧ k + μ = o.size ∧ k + lcp ((byl o).drop k.toNat) ((byl u).drop k.toNat) = trP o u) o.size 0
    (fun k : Int => [(6, .val (.int .i64 k))]) (fun _ => [(4, b4, .box 36 [.val (.int .i64 0), .val (.int .i64 0), .val (.string ⟨#[]⟩)]), (3, b3, .box 36 [.val (.int .i64 f), .val (.int .i64 t), .val (.string u)])]) (fun k => k = trP o u) ?_
  conv => whnf
  refine ⟨?_, ?_, ⟨by omega, by omega, by simp [trP]⟩, ?_, ?_⟩
  · ((repeat (refine ⟨rfl, ?_⟩)); trivial)
  · exact ⟨rfl, rfl, rfl, rfl, trivial⟩
  · rintro μ k ⟨h0, h1, h2⟩
    dsimp only
    rw [lcp_step _ _ _ h0, byl_len, byl_len, ← byteI_eq, ← byteI_eq] at h2
    ((repeat' ((conv => whnf); (first | (refine Ar.fit (by omega) ?_) | (refine VC.mk (by (first | omega | rfl | assumption | exact Sl.plain (by assumption) (by omega) | (and_intros <;> first | omega | rfl | assumption | (simp only [List.length_set]; omega) | (simp only [ByteArray.size_extract, ByteArray.size_append]; omega) | (simp only [List.length_cons, List.length_nil]; omega) | (simp only [Int.toNat_natCast, Int.toNat_one, List.length_take, List.length_cons, List.length_nil] at *; omega)))) ?_) | (refine Br.mk ?_ ?_ <;> intro hb <;> (try (first | (exfalso; omega) | exact absurd rfl hb | exact Bool.noConfusion hb | exact absurd (fun e => Bool.noConfusion e) hb | (exfalso; simp only [List.length_cons, List.length_nil] at hb; omega) | (exfalso; simp only [Int.toNat_natCast, Int.toNat_one, List.length_take, List.length_cons, List.length_nil] at hb; omega)))) | (refine XLoad.of (by assumption) rfl rfl (by omega) (by omega) rfl ?_) | (refine New.mk ?_; intro b hb) | (refine New2.mk ?_; intro b c hb hbc) | (refine SameR.same ?_) | (refine Two.mk ?_ ?_) | (refine ed_eql ?_) | (refine ed_neq ?_) | (refine drawn tysOk mixed (by kernel_rfl) ?_) | fail))); all_goals (try (conv => whnf)))
    · rw [if_pos ⟨by omega, by omega, hb⟩] at h2
      refine ⟨μ - 1, k + 1, ⟨by omega, by omega, by omega⟩, by omega, ?_, rfl, rfl, ⟨rfl, rfl, rfl, rfl, trivial⟩⟩
      ((repeat (refine ⟨rfl, ?_⟩)); trivial)
    all_goals
      rw [if_neg (by omega)] at h2
      refine ⟨k, by omega, ?_, rfl, rfl, ⟨rfl, rfl, rfl, rfl, trivial⟩⟩
      ((repeat (refine ⟨rfl, ?_⟩)); trivial)
  · rintro k rfl
    dsimp only
    have hP := lcp_le (byl o) (byl u)
    rw [byl_len, byl_len] at hP
    obtain ⟨p, hp⟩ : ∃ p, trP o u = p := ⟨_, rfl⟩
    have hP' : p ≤ o.size ∧ p ≤ u.size := by rw [← hp]; exact hP
    rw [hp]
    ((repeat' ((conv => whnf); (first | (refine drawnW tysOk mixed (.pull 0 [2, 11, 12, 13, 14, 15] (.pull 1 [2, 11, 12, 13, 14, 15] (.pull 2 [11, 12, 13, 14, 15] (.pull 3 [4, 6, 12, 13, 14, 15] (.pull 5 [6, 12, 13, 14, 15] (.pull 7 [8, 10, 11, 12, 13, 14, 15] (.pull 9 [10, 14, 15] (.pull 8 [10, 11, 12, 13, 14, 15] (.pull 10 [14, 15] (.pull 11 [12, 13, 14, 15] (.pull 4 [6, 12, 13, 14, 15] (.pull 6 [12, 13, 14, 15] (.pull 12 [13, 14, 15] (.one 13 (.pull 14 [15] (.one 15 .done)))))))))))))))) (by kernel_rfl) (by kernel_rfl) ?_) | (refine Ar.fit (by omega) ?_) | (refine VC.mk (by (first | omega | rfl | assumption | exact Sl.plain (by assumption) (by omega) | (and_intros <;> first | omega | rfl | assumption | (simp only [List.length_set]; omega) | (simp only [ByteArray.size_extract, ByteArray.size_append]; omega) | (simp only [List.length_cons, List.length_nil]; omega) | (simp only [Int.toNat_natCast, Int.toNat_one, List.length_take, List.length_cons, List.length_nil] at *; omega)))) ?_) | (refine Br.mk ?_ ?_ <;> intro hb <;> (try (first | (exfalso; omega) | exact absurd rfl hb | exact Bool.noConfusion hb | exact absurd (fun e => Bool.noConfusion e) hb | (exfalso; simp only [List.length_cons, List.length_nil] at hb; omega) | (exfalso; simp only [Int.toNat_natCast, Int.toNat_one, List.length_take, List.length_cons, List.length_nil] at hb; omega)))) | (refine XLoad.of (by assumption) rfl rfl (by omega) (by omega) rfl ?_) | (refine New.mk ?_; intro b hb) | (refine New2.mk ?_; intro b c hb hbc) | (refine SameR.same ?_) | (refine Two.mk ?_ ?_) | (refine ed_eql ?_) | (refine ed_neq ?_) | (refine drawn tysOk mixed (by kernel_rfl) ?_) | fail))); all_goals (try (conv => whnf)))
    simp only [Int.toNat_natCast]
    obtain ⟨o1, ho1⟩ : ∃ o1, o.extract p o.size = o1 := ⟨_, rfl⟩
    obtain ⟨u1, hu1⟩ : ∃ u1, u.extract p u.size = u1 := ⟨_, rfl⟩
    have ho1l : o1.size = o.size - p := by rw [← ho1, ByteArray.size_extract]; omega
    have hu1l : u1.size = u.size - p := by rw [← hu1, ByteArray.size_extract]; omega
    rw [ho1, hu1]
    obtain ⟨q, hq⟩ : ∃ q, lcp (byl o1).reverse (byl u1).reverse = q := ⟨_, rfl⟩
    have hq2 := lcp_le (byl o1).reverse (byl u1).reverse
    rw [hq, List.length_reverse, List.length_reverse, byl_len, byl_len] at hq2
    refine loop_cut tysOk [6] (fun k : Int => [(6, .val (.int .i64 k))]) (fun _ => [(4, b4, .box 36 [.val (.int .i64 0), .val (.int .i64 0), .val (.string ⟨#[]⟩)]), (3, b3, .box 36 [.val (.int .i64 (f + p)), .val (.int .i64 t), .val (.string u1)])])
      (fun μ k => 0 ≤ k ∧ k + μ = o1.size ∧ k + lcp ((byl o1).reverse.drop k.toNat) ((byl u1).reverse.drop k.toNat) = q) o1.size 0
      (fun k : Int => [(6, .val (.int .i64 k))]) (fun _ => [(4, b4, .box 36 [.val (.int .i64 0), .val (.int .i64 0), .val (.string ⟨#[]⟩)]), (3, b3, .box 36 [.val (.int .i64 (f + p)), .val (.int .i64 t), .val (.string u1)])]) (fun k => k = q) ?_
    conv => whnf
    refine ⟨?_, ?_, ⟨by omega, by omega, by simp [hq]⟩, ?_, ?_⟩
    · ((repeat (refine ⟨rfl, ?_⟩)); trivial)
    · exact ⟨rfl, rfl, rfl, rfl, trivial⟩
    · rintro μ k ⟨h0, h1, h2⟩
      dsimp only
      rw [lcp_step _ _ _ h0, List.length_reverse, List.length_reverse, byl_len, byl_len] at h2
      by_cases hk : k < o1.size ∧ k < u1.size
      · have e1 := get_rev (byl o1) k h0 (by rw [byl_len]; omega)
        have e2 := get_rev (byl u1) k h0 (by rw [byl_len]; omega)
        rw [byl_len, ← byteI_eq] at e1 e2
        rw [← e1, ← e2] at h2
        ((repeat' ((conv => whnf); (first | (refine Ar.fit (by omega) ?_) | (refine VC.mk (by (first | omega | rfl | assumption | exact Sl.plain (by assumption) (by omega) | (and_intros <;> first | omega | rfl | assumption | (simp only [List.length_set]; omega) | (simp only [ByteArray.size_extract, ByteArray.size_append]; omega) | (simp only [List.length_cons, List.length_nil]; omega) | (simp only [Int.toNat_natCast, Int.toNat_one, List.length_take, List.length_cons, List.length_nil] at *; omega)))) ?_) | (refine Br.mk ?_ ?_ <;> intro hb <;> (try (first | (exfalso; omega) | exact absurd rfl hb | exact Bool.noConfusion hb | exact absurd (fun e => Bool.noConfusion e) hb | (exfalso; simp only [List.length_cons, List.length_nil] at hb; omega) | (exfalso; simp only [Int.toNat_natCast, Int.toNat_one, List.length_take, List.length_cons, List.length_nil] at hb; omega)))) | (refine XLoad.of (by assumption) rfl rfl (by omega) (by omega) rfl ?_) | (refine New.mk ?_; intro b hb) | (refine New2.mk ?_; intro b c hb hbc) | (refine SameR.same ?_) | (refine Two.mk ?_ ?_) | (refine ed_eql ?_) | (refine ed_neq ?_) | (refine drawn tysOk mixed (by kernel_rfl) ?_) | fail))); all_goals (try (conv => whnf)))
        · rw [if_pos ⟨by omega, by omega, hb⟩] at h2
          refine ⟨μ - 1, k + 1, ⟨by omega, by omega, by omega⟩, by omega, ?_, rfl, rfl, ⟨rfl, rfl, rfl, rfl, trivial⟩⟩
          ((repeat (refine ⟨rfl, ?_⟩)); trivial)
        all_goals
          rw [if_neg (by omega)] at h2
          refine ⟨k, by omega, ?_, rfl, rfl, ⟨rfl, rfl, rfl, rfl, trivial⟩⟩
          ((repeat (refine ⟨rfl, ?_⟩)); trivial)
      · rw [if_neg (by omega)] at h2
        ((repeat' ((conv => whnf); (first | (refine Ar.fit (by omega) ?_) | (refine VC.mk (by (first | omega | rfl | assumption | exact Sl.plain (by assumption) (by omega) | (and_intros <;> first | omega | rfl | assumption | (simp only [List.length_set]; omega) | (simp only [ByteArray.size_extract, ByteArray.size_append]; omega) | (simp only [List.length_cons, List.length_nil]; omega) | (simp only [Int.toNat_natCast, Int.toNat_one, List.length_take, List.length_cons, List.length_nil] at *; omega)))) ?_) | (refine Br.mk ?_ ?_ <;> intro hb <;> (try (first | (exfalso; omega) | exact absurd rfl hb | exact Bool.noConfusion hb | exact absurd (fun e => Bool.noConfusion e) hb | (exfalso; simp only [List.length_cons, List.length_nil] at hb; omega) | (exfalso; simp only [Int.toNat_natCast, Int.toNat_one, List.length_take, List.length_cons, List.length_nil] at hb; omega)))) | (refine XLoad.of (by assumption) rfl rfl (by omega) (by omega) rfl ?_) | (refine New.mk ?_; intro b hb) | (refine New2.mk ?_; intro b c hb hbc) | (refine SameR.same ?_) | (refine Two.mk ?_ ?_) | (refine ed_eql ?_) | (refine ed_neq ?_) | (refine drawn tysOk mixed (by kernel_rfl) ?_) | fail))); all_goals (try (conv => whnf)))
        all_goals
          refine ⟨k, by omega, ?_, rfl, rfl, ⟨rfl, rfl, rfl, rfl, trivial⟩⟩
          ((repeat (refine ⟨rfl, ?_⟩)); trivial)
    · rintro k rfl
      dsimp only
      have hT : trimF s ⟨f, t, u⟩ = ⟨f + p, t - q, u1.extract 0 (u1.size - q)⟩ := by
        simp only [trimF, ho, hp, trQ, ho1, hu1, hq]
      rw [hT]
      ((repeat' ((conv => whnf); (first | (refine Ar.fit (by omega) ?_) | (refine VC.mk (by (first | omega | rfl | assumption | exact Sl.plain (by assumption) (by omega) | (and_intros <;> first | omega | rfl | assumption | (simp only [List.length_set]; omega) | (simp only [ByteArray.size_extract, ByteArray.size_append]; omega) | (simp only [List.length_cons, List.length_nil]; omega) | (simp only [Int.toNat_natCast, Int.toNat_one, List.length_take, List.length_cons, List.length_nil] at *; omega)))) ?_) | (refine Br.mk ?_ ?_ <;> intro hb <;> (try (first | (exfalso; omega) | exact absurd rfl hb | exact Bool.noConfusion hb | exact absurd (fun e => Bool.noConfusion e) hb | (exfalso; simp only [List.length_cons, List.length_nil] at hb; omega) | (exfalso; simp only [Int.toNat_natCast, Int.toNat_one, List.length_take, List.length_cons, List.length_nil] at hb; omega)))) | (refine XLoad.of (by assumption) rfl rfl (by omega) (by omega) rfl ?_) | (refine New.mk ?_; intro b hb) | (refine New2.mk ?_; intro b c hb hbc) | (refine SameR.same ?_) | (refine Two.mk ?_ ?_) | (refine ed_eql ?_) | (refine ed_neq ?_) | (refine drawn tysOk mixed (by kernel_rfl) ?_) | fail))); all_goals (try (conv => whnf)))
      refine ⟨fun h' hs' => ⟨?_, hs'.grows⟩⟩
      simp only [den, den1, denC, List.map_cons, List.map_nil]
      rw [show ((u1.size : Int) - q).toNat = u1.size - q by omega]
      rfl
end Go.Ex
