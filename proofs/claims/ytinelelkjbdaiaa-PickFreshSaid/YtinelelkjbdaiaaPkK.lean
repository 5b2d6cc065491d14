/-
  Pick: the program's ends of trees in a row.
-/
import Derived.Test.YtinelelkjbdaiaaPkJ
namespace Go.Ex
open Go.Proofs
set_option linter.unusedVariables false
set_option linter.unusedSimpArgs false
attribute [local irreducible] CallsH

theorem sufS_mem : ∀ (ks : List Int) (i : Int) (st : List Int), sufS ks i = some st → ∀ y ∈ st, i ≤ y ∧ y < i + ks.length
  | [], i, st, h, y, hy => by cases h; cases hy
  | k :: r, i, st, h, y, hy => by
    simp only [sufS] at h
    split at h
    · cases h
    · rename_i st' hs
      split at h
      · cases h
      · cases h
        simp only [List.length_cons]
        rcases List.mem_cons.1 hy with rfl | hy
        · omega
        · have := sufS_mem r (i + 1) st' hs y (List.mem_of_mem_drop hy)
          omega
theorem sufS_none : ∀ (j : Nat) (ks : List Int) (i : Int), sufS (ks.drop j) (i + j) = none → sufS ks i = none
  | 0, ks, i, h => by simpa using h
  | j + 1, [], i, h => by simp [sufS] at h
  | j + 1, k :: r, i, h => by
    simp only [sufS]
    rw [sufS_none j r (i + 1) (by rw [← h, List.drop_succ_cons]; congr 1; omega)]
def siK (k : Nat) (o : Option (Nat × Nat)) (n : Int) : KV := match o with
  | none => .val (.slice none 0 0)
  | some (b, c) => .osl k b n c
def siC (k : Nat) (o : Option (Nat × Nat)) (L : List Int) : Chs := match o with
  | none => []
  | some (b, c) => [(k, b, .arr 3 (intR .i64) L c)]
structure ES where
  O : List Int
  o : Option (Nat × Nat)
  xs : List Int
  m : Int
  i : Int
structure EInv (ks : List Int) (x : ES) : Prop where
  ol : x.O.length = ks.length
  m : x.m = x.xs.length
  nil : x.o = none → x.xs = []
  i0 : -1 ≤ x.i
  i1 : x.i < ks.length
  st : sufS (ks.drop (x.i + 1).toNat) (x.i + 1) = some x.xs.reverse
set_option maxHeartbeats 1000000 in
set_option maxRecDepth 10000 in
theorem tends_any (A : Option Addr) (n c : Nat) (L : List Pt) (h : Heap) (hL : Sl partR h A n L) (hn : n ≤ 300) :
    CallsH Try.prog 26 #[.slice A n c] h fun v h' => (∃ (B : Option Addr) (m e : Nat) (d : Int) (b : Bool), v = .tuple #[.slice B m e, .int .i64 d, .bool b] ∧ ((b = true ∧ d = 1) ↔ ∃ st, sufS (kidsL L) 0 = some st ∧ st.length = 1)) ∧ Grows h h' := by
  refine enter (rep := rep) (m := 9) (ex := [16, 31, 38]) (cu := []) tysOk Try.func26 rfl (by decide) (rs := [.tmp 2, .tmp 3, .tmp 4]) rfl rfl [.val (.slice A n c)] rfl ?_
  have hlen := hL.len_eq
  have hkl : (kidsL L).length = L.length := by simp [kidsL]
  ((repeat' ((conv => whnf); (first | (refine Ar.fit (by first | omega | (simp only [lo, hi]; omega)) ?_) | (refine VC.mk (by (first | omega | rfl | assumption | exact Sl.plain (by assumption) (by omega) | (and_intros <;> first | omega | rfl | assumption | (simp only [List.length_set]; omega) | (simp only [List.length_append, List.length_take, List.length_replicate, List.length_cons, List.length_nil]; omega) | (simp only [ByteArray.size_extract, ByteArray.size_append]; omega) | (simp only [List.length_cons, List.length_nil]; omega) | (simp only [Int.toNat_natCast, Int.toNat_one, List.length_take, List.length_cons, List.length_nil] at *; omega)))) ?_) | (refine Br.mk ?_ ?_ <;> intro hb <;> (try (first | (exfalso; omega) | exact absurd rfl hb | exact Bool.noConfusion hb | exact absurd (fun e => Bool.noConfusion e) hb | (exfalso; simp only [List.length_cons, List.length_nil] at hb; omega) | (exfalso; simp only [Int.toNat_natCast, Int.toNat_one, List.length_take, List.length_cons, List.length_nil] at hb; omega)))) | (refine XLoad.of (by assumption) rfl rfl (by omega) (by omega) rfl ?_) | (refine New.mk ?_; intro b hb) | (refine New2.mk ?_; intro b c hb hbc) | (refine NewO.mk ?_; intro b c hb hbc) | (refine SameR.same ?_) | (refine Two.mk ?_ ?_) | (refine Tri.mk ?_ ?_ ?_) | (refine ed_eql ?_) | (refine ed_neq ?_) | (refine drawn tysOk mixed (by kernel_rfl) ?_) | fail))); all_goals (try (conv => whnf)))
  refine loop_rule tysOk [6, 7] (fun x : ES => [(6, siK 60 x.o x.m), (7, .val (.int .i64 x.i))]) (fun x => [(11, b, .arr 3 (intR .i64) x.O (n : Int).toNat)] ++ siC 60 x.o x.xs)
    (fun μ x => EInv (kidsL L) x ∧ (∀ b c, x.o = some (b, c) → h.size ≤ b ∧ x.m ≤ c) ∧ μ = (x.i + 1).toNat) n ⟨List.replicate (n : Int).toNat 0, none, [], 0, (n : Int) - 1⟩ ?_
  conv => whnf
  refine ⟨by ((repeat (refine ⟨rfl, ?_⟩)); trivial), ⟨rfl, rfl, trivial⟩, ⟨⟨by simp; omega, by simp, by simp, by dsimp only; omega, by dsimp only; omega, ?_⟩, by simp, by dsimp only; omega⟩, ?_⟩
  · dsimp only
    rw [List.drop_of_length_le (by omega)]; rfl
  rintro μ ⟨O, o, xs, m, i⟩ ⟨⟨a1, a2, a3, a4, a5, a6⟩, a7, a8⟩
  dsimp only at a1 a2 a3 a4 a5 a6 a7 a8 ⊢
  have hxl : xs.length ≤ 300 := by
    have := sufS_len _ _ _ a6
    simp only [List.length_reverse, List.length_drop] at this
    omega
  by_cases hi : 0 ≤ i
  · obtain ⟨k, hk⟩ : ∃ k, k = (getI partR.dflt L i).kids := ⟨_, rfl⟩
    have e0 : sufS ((kidsL L).drop i.toNat) i = if k < 0 ∨ (xs.length : Int) < k then none else some (i :: xs.reverse.drop k.toNat) := by
      rw [kids_drop L i hi (by omega)]
      simp only [sufS, a6, List.length_reverse]
      rw [hk]
    have hr : 0 < k → k ≤ xs.length → 0 ≤ getI (intR .i64).dflt xs (m - k) ∧ getI (intR .i64).dflt xs (m - k) < n := fun k0 k1 => by
      have hm : getI (intR .i64).dflt xs (m - k) ∈ xs := by
        simp only [getI, List.getD]
        rw [List.getElem?_eq_getElem (by omega)]
        exact List.getElem_mem _
      have := sufS_mem _ _ _ a6 _ (List.mem_reverse.2 hm)
      simp only [List.length_drop] at this
      omega
    rcases o with _ | ⟨b0, c0⟩
    · have := a3 rfl
      subst this
      dsimp only [siK, siC, List.append_nil, List.nil_append, List.cons_append]
      have hfin : ¬ (k < 0 ∨ ((([] : List Int).length : Nat) : Int) < k) → k = 0 := fun h => by simp only [List.length_nil] at h; omega
      ((repeat' ((conv => whnf); (first | (refine Ar.fit (by first | omega | (simp only [lo, hi]; omega)) ?_) | (refine VC.mk (by (first | omega | rfl | assumption | exact Sl.plain (by assumption) (by omega) | (and_intros <;> first | omega | rfl | assumption | (simp only [List.length_set]; omega) | (simp only [List.length_append, List.length_take, List.length_replicate, List.length_cons, List.length_nil]; omega) | (simp only [ByteArray.size_extract, ByteArray.size_append]; omega) | (simp only [List.length_cons, List.length_nil]; omega) | (simp only [Int.toNat_natCast, Int.toNat_one, List.length_take, List.length_cons, List.length_nil] at *; omega)))) ?_) | (refine Br.mk ?_ ?_ <;> intro hb <;> (try (first | (exfalso; omega) | exact absurd rfl hb | exact Bool.noConfusion hb | exact absurd (fun e => Bool.noConfusion e) hb | (exfalso; simp only [List.length_cons, List.length_nil] at hb; omega) | (exfalso; simp only [Int.toNat_natCast, Int.toNat_one, List.length_take, List.length_cons, List.length_nil] at hb; omega)))) | (refine XLoad.of (by assumption) rfl rfl (by omega) (by omega) rfl ?_) | (refine New.mk ?_; intro b hb) | (refine New2.mk ?_; intro b c hb hbc) | (refine NewO.mk ?_; intro b c hb hbc) | (refine SameR.same ?_) | (refine Two.mk ?_ ?_) | (refine Tri.mk ?_ ?_ ?_) | (refine ed_eql ?_) | (refine ed_neq ?_) | (refine drawn tysOk mixed (by kernel_rfl) ?_) | fail))); all_goals (try (conv => whnf)))
      all_goals first
        | (refine ⟨fun h' hs => ⟨⟨none, 0, 0, 0, false, rfl, ⟨fun h => (by cases h.1), fun ⟨st, q1, q2⟩ => ?_⟩⟩, hs.grows⟩⟩
           exfalso
           rw [if_pos (by simp only [List.length_nil]; omega)] at e0
           rw [sufS_none i.toNat (kidsL L) 0 (by rw [← e0]; congr 1; omega)] at q1
           cases q1)
        | skip
      have hz : (((0 : Nat) : Int) - (getI partR.dflt L i).kids - 0).toNat = 0 := by omega
      rw [hz]
      ((repeat' ((conv => whnf); (first | (refine Ar.fit (by first | omega | (simp only [lo, hi]; omega)) ?_) | (refine VC.mk (by (first | omega | rfl | assumption | exact Sl.plain (by assumption) (by omega) | (and_intros <;> first | omega | rfl | assumption | (simp only [List.length_set]; omega) | (simp only [List.length_append, List.length_take, List.length_replicate, List.length_cons, List.length_nil]; omega) | (simp only [ByteArray.size_extract, ByteArray.size_append]; omega) | (simp only [List.length_cons, List.length_nil]; omega) | (simp only [Int.toNat_natCast, Int.toNat_one, List.length_take, List.length_cons, List.length_nil] at *; omega)))) ?_) | (refine Br.mk ?_ ?_ <;> intro hb <;> (try (first | (exfalso; omega) | exact absurd rfl hb | exact Bool.noConfusion hb | exact absurd (fun e => Bool.noConfusion e) hb | (exfalso; simp only [List.length_cons, List.length_nil] at hb; omega) | (exfalso; simp only [Int.toNat_natCast, Int.toNat_one, List.length_take, List.length_cons, List.length_nil] at hb; omega)))) | (refine XLoad.of (by assumption) rfl rfl (by omega) (by omega) rfl ?_) | (refine New.mk ?_; intro b hb) | (refine New2.mk ?_; intro b c hb hbc) | (refine NewO.mk ?_; intro b c hb hbc) | (refine SameR.same ?_) | (refine Two.mk ?_ ?_) | (refine Tri.mk ?_ ?_ ?_) | (refine ed_eql ?_) | (refine ed_neq ?_) | (refine drawn tysOk mixed (by kernel_rfl) ?_) | fail))); all_goals (try (conv => whnf)))
      have hk0 : k = 0 := hfin (by simp only [List.length_nil]; omega)
      refine ⟨μ - 1, ⟨O.set i.toNat (i + 1), some (b, c), [i], 1, i - 1⟩, ⟨⟨by dsimp only; rw [List.length_set]; exact a1, rfl, fun e => (by cases e), by dsimp only; omega, by dsimp only; omega, ?_⟩, fun b' c' e => (by cases e; exact ⟨hb, by simp at hbc; dsimp only; omega⟩), by dsimp only; omega⟩, by omega, by ((repeat (refine ⟨rfl, ?_⟩)); trivial), rfl, rfl, ⟨rfl, rfl, rfl, rfl, trivial⟩⟩
      dsimp only
      rw [show i - 1 + 1 = i by omega, e0, if_neg (by simp only [List.length_nil]; omega)]
      simp
    · obtain ⟨hb0, hc0⟩ := a7 b0 c0 rfl
      rw [hk] at hr
      have hol : (O.set i.toNat (i + 1)).length = O.length := List.length_set
      dsimp only [siK, siC, List.append_nil, List.nil_append, List.cons_append]
      ((repeat' ((conv => whnf); (first | (refine Ar.fit (by first | omega | (simp only [lo, hi]; omega)) ?_) | (refine VC.mk (by (first | omega | rfl | assumption | exact Sl.plain (by assumption) (by omega) | (and_intros <;> first | omega | rfl | assumption | (simp only [List.length_set]; omega) | (simp only [List.length_append, List.length_take, List.length_replicate, List.length_cons, List.length_nil]; omega) | (simp only [ByteArray.size_extract, ByteArray.size_append]; omega) | (simp only [List.length_cons, List.length_nil]; omega) | (simp only [Int.toNat_natCast, Int.toNat_one, List.length_take, List.length_cons, List.length_nil] at *; omega)))) ?_) | (refine Br.mk ?_ ?_ <;> intro hb <;> (try (first | (exfalso; omega) | exact absurd rfl hb | exact Bool.noConfusion hb | exact absurd (fun e => Bool.noConfusion e) hb | (exfalso; simp only [List.length_cons, List.length_nil] at hb; omega) | (exfalso; simp only [Int.toNat_natCast, Int.toNat_one, List.length_take, List.length_cons, List.length_nil] at hb; omega)))) | (refine XLoad.of (by assumption) rfl rfl (by omega) (by omega) rfl ?_) | (refine New.mk ?_; intro b hb) | (refine New2.mk ?_; intro b c hb hbc) | (refine NewO.mk ?_; intro b c hb hbc) | (refine SameR.same ?_) | (refine Two.mk ?_ ?_) | (refine Tri.mk ?_ ?_ ?_) | (refine ed_eql ?_) | (refine ed_neq ?_) | (refine drawn tysOk mixed (by kernel_rfl) ?_) | fail))); all_goals (try (conv => whnf)))
      all_goals first
        | (refine ⟨fun h' hs => ⟨⟨none, 0, 0, 0, false, rfl, ⟨fun h => (by cases h.1), fun ⟨st, q1, q2⟩ => ?_⟩⟩, hs.grows⟩⟩
           exfalso
           rw [if_pos (by omega)] at e0
           rw [sufS_none i.toNat (kidsL L) 0 (by rw [← e0]; congr 1; omega)] at q1
           cases q1)
        | skip
      all_goals
        have e1 : List.take (m - (getI partR.dflt L i).kids).toNat xs ++ List.take (1 : Int).toNat [i] = (i :: xs.reverse.drop k.toNat).reverse := by
          rw [List.reverse_cons, List.reverse_drop, List.reverse_reverse, List.length_reverse, hk]
          congr 2
          omega
        refine ⟨μ - 1, ⟨_, some (b, c), List.take (m - (getI partR.dflt L i).kids).toNat xs ++ List.take (1 : Int).toNat [i], m - (getI partR.dflt L i).kids + ((List.take ((1 : Nat) : Int).toNat [i]).length : Nat), i - 1⟩, ⟨⟨by dsimp only; simp only [List.length_set]; exact a1, ?_, fun e => (by cases e), by dsimp only; omega, by dsimp only; omega, ?_⟩, fun b' c' e => (by cases e; exact ⟨hb.elim id (fun hh => (by cases hh.2)), by dsimp only; omega⟩), by dsimp only; omega⟩, by omega, by ((repeat (refine ⟨rfl, ?_⟩)); trivial), rfl, rfl, ⟨rfl, rfl, rfl, rfl, trivial⟩⟩
        · dsimp only
          rw [e1]
          simp only [List.length_reverse, List.length_cons, List.length_drop]
          simp
          omega
        · dsimp only
          rw [show i - 1 + 1 = i by omega, e0, if_neg (by omega), e1, List.reverse_reverse]
  · have hi1 : i = -1 := by omega
    subst hi1
    have e9 : sufS (kidsL L) 0 = some xs.reverse := by simpa using a6
    rcases o with _ | ⟨b0, c0⟩
    · have := a3 rfl
      subst this
      dsimp only [siK, siC, List.append_nil, List.nil_append, List.cons_append]
      ((repeat' ((conv => whnf); (first | (refine Ar.fit (by first | omega | (simp only [lo, hi]; omega)) ?_) | (refine VC.mk (by (first | omega | rfl | assumption | exact Sl.plain (by assumption) (by omega) | (and_intros <;> first | omega | rfl | assumption | (simp only [List.length_set]; omega) | (simp only [List.length_append, List.length_take, List.length_replicate, List.length_cons, List.length_nil]; omega) | (simp only [ByteArray.size_extract, ByteArray.size_append]; omega) | (simp only [List.length_cons, List.length_nil]; omega) | (simp only [Int.toNat_natCast, Int.toNat_one, List.length_take, List.length_cons, List.length_nil] at *; omega)))) ?_) | (refine Br.mk ?_ ?_ <;> intro hb <;> (try (first | (exfalso; omega) | exact absurd rfl hb | exact Bool.noConfusion hb | exact absurd (fun e => Bool.noConfusion e) hb | (exfalso; simp only [List.length_cons, List.length_nil] at hb; omega) | (exfalso; simp only [Int.toNat_natCast, Int.toNat_one, List.length_take, List.length_cons, List.length_nil] at hb; omega)))) | (refine XLoad.of (by assumption) rfl rfl (by omega) (by omega) rfl ?_) | (refine New.mk ?_; intro b hb) | (refine New2.mk ?_; intro b c hb hbc) | (refine NewO.mk ?_; intro b c hb hbc) | (refine SameR.same ?_) | (refine Two.mk ?_ ?_) | (refine Tri.mk ?_ ?_ ?_) | (refine ed_eql ?_) | (refine ed_neq ?_) | (refine drawn tysOk mixed (by kernel_rfl) ?_) | fail))); all_goals (try (conv => whnf)))
      all_goals
        refine ⟨fun h' hs => ⟨⟨_, _, _, _, true, rfl, ?_⟩, hs.grows⟩⟩
        rw [e9]
        simp
    · obtain ⟨hb0, hc0⟩ := a7 b0 c0 rfl
      dsimp only [siK, siC, List.append_nil, List.nil_append, List.cons_append]
      ((repeat' ((conv => whnf); (first | (refine Ar.fit (by first | omega | (simp only [lo, hi]; omega)) ?_) | (refine VC.mk (by (first | omega | rfl | assumption | exact Sl.plain (by assumption) (by omega) | (and_intros <;> first | omega | rfl | assumption | (simp only [List.length_set]; omega) | (simp only [List.length_append, List.length_take, List.length_replicate, List.length_cons, List.length_nil]; omega) | (simp only [ByteArray.size_extract, ByteArray.size_append]; omega) | (simp only [List.length_cons, List.length_nil]; omega) | (simp only [Int.toNat_natCast, Int.toNat_one, List.length_take, List.length_cons, List.length_nil] at *; omega)))) ?_) | (refine Br.mk ?_ ?_ <;> intro hb <;> (try (first | (exfalso; omega) | exact absurd rfl hb | exact Bool.noConfusion hb | exact absurd (fun e => Bool.noConfusion e) hb | (exfalso; simp only [List.length_cons, List.length_nil] at hb; omega) | (exfalso; simp only [Int.toNat_natCast, Int.toNat_one, List.length_take, List.length_cons, List.length_nil] at hb; omega)))) | (refine XLoad.of (by assumption) rfl rfl (by omega) (by omega) rfl ?_) | (refine New.mk ?_; intro b hb) | (refine New2.mk ?_; intro b c hb hbc) | (refine NewO.mk ?_; intro b c hb hbc) | (refine SameR.same ?_) | (refine Two.mk ?_ ?_) | (refine Tri.mk ?_ ?_ ?_) | (refine ed_eql ?_) | (refine ed_neq ?_) | (refine drawn tysOk mixed (by kernel_rfl) ?_) | fail))); all_goals (try (conv => whnf)))
      all_goals
        refine ⟨fun h' hs => ⟨⟨_, _, _, _, true, rfl, ?_⟩, hs.grows⟩⟩
        rw [e9]
        simp
        omega
end Go.Ex
