/-
  Pick: the ends of all parts.
-/
import Derived.Test.YtinelelkjbdaiaaPkL
namespace Go.Ex
open Go.Proofs
set_option linter.unusedVariables false
set_option linter.unusedSimpArgs false
attribute [local irreducible] CallsH

theorem endG_ge (len : Int) : ∀ (ks : List Int) (m i : Int), endG len ks m i = -1 ∨ i ≤ endG len ks m i ∧ endG len ks m i ≤ i + ks.length
  | [], m, i => by simp only [endG]; split <;> simp
  | k :: r, m, i => by
    simp only [endG, List.length_cons]
    split
    · split
      · exact .inl rfl
      · rcases endG_ge len r (m - 1 + k) (i + 1) with h | h
        · exact .inl h
        · right; omega
    · right; omega
theorem endG_add (len : Int) : ∀ (ks : List Int) (a b i : Int), 0 ≤ a → 0 ≤ b → 0 ≤ i → endG len ks (a + b) i = if endG len ks a i < 0 then -1 else endG len (ks.drop (endG len ks a i - i).toNat) b (endG len ks a i)
  | [], a, b, i, ha, hb, hi => by
    by_cases h : 0 < a
    · have e1 : endG len [] (a + b) i = -1 := by simp only [endG]; rw [if_pos (by omega)]
      have e2 : endG len [] a i = -1 := by simp only [endG]; rw [if_pos h]
      rw [e1, e2]; rfl
    · have : a = 0 := by omega
      subst this
      simp [endG]; omega
  | k :: r, a, b, i, ha, hb, hi => by
    by_cases h : 0 < a
    · by_cases hk : k < 0 ∨ len < k
      · have e1 : endG len (k :: r) (a + b) i = -1 := by simp only [endG]; rw [if_pos (by omega), if_pos hk]
        have e2 : endG len (k :: r) a i = -1 := by simp only [endG]; rw [if_pos h, if_pos hk]
        rw [e1, e2]; rfl
      · have e1 : endG len (k :: r) (a + b) i = endG len r ((a - 1 + k) + b) (i + 1) := by
          simp only [endG]; rw [if_pos (by omega), if_neg hk]; congr 1; omega
        have e2 : endG len (k :: r) a i = endG len r (a - 1 + k) (i + 1) := by
          simp only [endG]; rw [if_pos h, if_neg hk]
        rw [e1, e2, endG_add len r (a - 1 + k) b (i + 1) (by omega) hb (by omega)]
        by_cases hn : endG len r (a - 1 + k) (i + 1) < 0
        · rw [if_pos hn, if_pos hn]
        · rw [if_neg hn, if_neg hn]
          have := endG_ge len r (a - 1 + k) (i + 1)
          rw [show (endG len r (a - 1 + k) (i + 1) - i).toNat = (endG len r (a - 1 + k) (i + 1) - (i + 1)).toNat + 1 by omega, List.drop_succ_cons]
    · have : a = 0 := by omega
      subst this
      have e2 : endG len (k :: r) 0 i = i := by simp [endG]
      rw [e2, if_neg (by omega), Int.sub_self, Int.toNat_zero, List.drop_zero, Int.zero_add]
/-- the place behind so many kids of part i -/
def endK (L : List Pt) (i t : Int) : Int := endG L.length ((kidsL L).drop (i + 1).toNat) t (i + 1)
theorem sufS_some : ∀ (j : Nat) (ks : List Int) (i : Int) (st : List Int), sufS ks i = some st → ∃ st', sufS (ks.drop j) (i + j) = some st' := fun j ks i st h => by
  cases hs : sufS (ks.drop j) (i + j) with
  | none => rw [sufS_none j ks i hs] at h; cases h
  | some st' => exact ⟨st', rfl⟩
theorem getI_one (i : Int) (l : List Int) (h : 0 < l.length) : getI 0 (i :: l) 1 ∈ l := by
  cases l with
  | nil => cases h
  | cons a r => exact List.mem_cons_self
theorem WellL.end_ {L : List Pt} (hw : WellL L) (i : Int) (h0 : 0 ≤ i) (h1 : i < L.length) : i < endL L i ∧ endL L i ≤ L.length ∧ 0 ≤ (ptAt L i).kids ∧ (ptAt L i).kids ≤ L.length ∧ endL L i = endK L i (ptAt L i).kids := by
  obtain ⟨st, q1, q2⟩ := (well_iff L).1 hw
  have hk : (kidsL L).length = L.length := by simp [kidsL]
  obtain ⟨st', q3⟩ := sufS_some i.toNat (kidsL L) 0 st q1
  rw [show (0 : Int) + (i.toNat : Int) = i by omega] at q3
  have q3' := q3
  rw [kids_drop L i h0 h1] at q3
  simp only [sufS] at q3
  split at q3
  · cases q3
  · rename_i st2 hs2
    split at q3
    · cases q3
    · rename_i hkk
      cases q3
      have hl2 := sufS_len _ _ _ hs2
      simp only [List.length_drop] at hl2
      have e1 : endL L i = endK L i (ptAt L i).kids := by
        rw [endL, if_neg (by omega), kids_drop L i h0 h1, endK]
        simp only [endG]
        rw [if_pos (by omega), if_neg (by omega)]
        congr 1; omega
      have e2 := endG_of L.length _ i _ 1 q3' (by simp only [List.length_drop]; omega) (by simp only [List.length_drop]; omega) (by omega) (by simp only [List.length_cons]; omega)
      have e3 : endL L i = endG L.length ((kidsL L).drop i.toNat) 1 i := by rw [endL, if_neg (by omega)]
      refine ⟨?_, ?_, by omega, by omega, e1⟩
      · rw [e3, e2]
        split
        · rename_i hlt
          have : getI 0 (i :: List.drop (ptAt L i).kids.toNat st2) 1 ∈ List.drop (ptAt L i).kids.toNat st2 := getI_one _ _ (by simp only [List.length_cons] at hlt; omega)
          have := sufS_mem _ _ _ hs2 _ (List.mem_of_mem_drop this)
          omega
        · omega
      · have := endG_ge L.length ((kidsL L).drop i.toNat) 1 i
        simp only [List.length_drop] at this
        omega
theorem endK_zero (L : List Pt) (i : Int) : endK L i 0 = i + 1 := by
  rw [endK]; cases (kidsL L).drop (i + 1).toNat <;> simp [endG]
theorem endK_step {L : List Pt} (hw : WellL L) (i t : Int) (h0 : 0 ≤ i) (h1 : i < L.length) (t0 : 0 ≤ t) (t1 : t < (ptAt L i).kids) : i < endK L i t ∧ endK L i t < L.length ∧ endK L i (t + 1) = endL L (endK L i t) := by
  obtain ⟨a1, a2, a3, a4, a5⟩ := hw.end_ i h0 h1
  have hk : (kidsL L).length = L.length := by simp [kidsL]
  have key : 0 ≤ endK L i t := by
    have e := endG_add L.length ((kidsL L).drop (i + 1).toNat) t ((ptAt L i).kids - t) (i + 1) t0 (by omega) (by omega)
    rw [show t + ((ptAt L i).kids - t) = (ptAt L i).kids by omega] at e
    change endK L i (ptAt L i).kids = if endK L i t < 0 then _ else _ at e
    by_cases hn : endK L i t < 0
    · rw [if_pos hn] at e; omega
    · omega
  have key2 : 0 ≤ endK L i (t + 1) := by
    by_cases ht : t + 1 = (ptAt L i).kids
    · rw [ht]; omega
    · have e := endG_add L.length ((kidsL L).drop (i + 1).toNat) (t + 1) ((ptAt L i).kids - (t + 1)) (i + 1) (by omega) (by omega) (by omega)
      rw [show t + 1 + ((ptAt L i).kids - (t + 1)) = (ptAt L i).kids by omega] at e
      change endK L i (ptAt L i).kids = if endK L i (t + 1) < 0 then _ else _ at e
      by_cases hn : endK L i (t + 1) < 0
      · rw [if_pos hn] at e; omega
      · omega
  have hge := endG_ge L.length ((kidsL L).drop (i + 1).toNat) t (i + 1)
  change endK L i t = -1 ∨ i + 1 ≤ endK L i t ∧ endK L i t ≤ _ at hge
  simp only [List.length_drop] at hge
  have e := endG_add L.length ((kidsL L).drop (i + 1).toNat) t 1 (i + 1) t0 (by omega) (by omega)
  change endK L i (t + 1) = if endK L i t < 0 then _ else endG L.length (((kidsL L).drop (i + 1).toNat).drop (endK L i t - (i + 1)).toNat) 1 (endK L i t) at e
  rw [if_neg (by omega), List.drop_drop, show (i + 1).toNat + (endK L i t - (i + 1)).toNat = (endK L i t).toNat by omega] at e
  have e4 : endK L i (t + 1) = endL L (endK L i t) := by rw [e, endL, if_neg (by omega)]
  refine ⟨by omega, ?_, e4⟩
  by_cases hlt : endK L i t < L.length
  · exact hlt
  · rw [endL, if_neg (by omega), kids_all L _ hlt] at e4
    simp only [endG] at e4
    rw [if_pos (by omega)] at e4
    omega
theorem getI_set {τ : Type} (d : τ) (O : List τ) (i j : Int) (v : τ) (h0 : 0 ≤ i) (h1 : i < O.length) (j0 : 0 ≤ j) : getI d (O.set i.toNat v) j = if j = i then v else getI d O j := by
  simp only [getI, List.getD, List.getElem?_set]
  by_cases h : j = i
  · subst h; rw [if_pos rfl, if_pos rfl, if_pos (by omega)]; rfl
  · rw [if_neg h, if_neg (by omega)]
def endsL (L : List Pt) : List Int := (List.range L.length).map fun i : Nat => endL L (i : Int)
theorem endsL_len (L : List Pt) : (endsL L).length = L.length := by simp [endsL]
theorem endsL_get (L : List Pt) (d : Int) (i : Int) (h0 : 0 ≤ i) (h1 : i < L.length) : getI d (endsL L) i = endL L i := by
  simp only [getI, List.getD, endsL]
  rw [List.getElem?_map, List.getElem?_range (by omega)]
  simp only [Option.map_some, Option.getD_some]
  congr 1; omega
theorem endsL_ext (L : List Pt) (O : List Int) (d : Int) (hl : O.length = L.length) (h : ∀ j : Int, 0 ≤ j → j < L.length → getI d O j = endL L j) : O = endsL L := by
  apply List.ext_getElem
  · rw [hl, endsL_len]
  · intro i h1 h2
    have := h i (by omega) (by omega)
    have e2 := endsL_get L d i (by omega) (by omega)
    rw [← e2] at this
    simp only [getI, List.getD, Int.toNat_natCast] at this
    rwa [List.getElem?_eq_getElem h1, List.getElem?_eq_getElem h2] at this
set_option maxHeartbeats 1000000 in
set_option maxRecDepth 10000 in
theorem pends_any (A : Option Addr) (n c : Nat) (L : List Pt) (h : Heap) (hL : Sl partR h A n L) (hn : n ≤ 300) (hw : WellL L) :
    CallsH Try.prog 17 #[.slice A n c] h fun v h' => OwnSl (intR .i64) 3 h h' v (endsL L) ∧ Grows h h' := by
  refine enter (rep := rep) (m := 5) (ex := [12, 24, 25, 26]) (cu := []) tysOk Try.func17 rfl (by decide) (rs := [.tmp 2]) rfl rfl [.val (.slice A n c)] rfl ?_
  have hlen := hL.len_eq
  ((repeat' ((conv => whnf); (first | (refine Ar.fit (by first | omega | (simp only [lo, hi]; omega)) ?_) | (refine VC.mk (by (first | omega | rfl | assumption | exact Sl.plain (by assumption) (by omega) | (and_intros <;> first | omega | rfl | assumption | (simp only [List.length_set]; omega) | (simp only [List.length_append, List.length_take, List.length_replicate, List.length_cons, List.length_nil]; omega) | (simp only [ByteArray.size_extract, ByteArray.size_append]; omega) | (simp only [List.length_cons, List.length_nil]; omega) | (simp only [Int.toNat_natCast, Int.toNat_one, List.length_take, List.length_cons, List.length_nil] at *; omega)))) ?_) | (refine Br.mk ?_ ?_ <;> intro hb <;> (try (first | (exfalso; omega) | exact absurd rfl hb | exact Bool.noConfusion hb | exact absurd (fun e => Bool.noConfusion e) hb | (exfalso; simp only [List.length_cons, List.length_nil] at hb; omega) | (exfalso; simp only [Int.toNat_natCast, Int.toNat_one, List.length_take, List.length_cons, List.length_nil] at hb; omega)))) | (refine XLoad.of (by assumption) rfl rfl (by omega) (by omega) rfl ?_) | (refine New.mk ?_; intro b hb) | (refine New2.mk ?_; intro b c hb hbc) | (refine NewO.mk ?_; intro b c hb hbc) | (refine SameR.same ?_) | (refine Two.mk ?_ ?_) | (refine Tri.mk ?_ ?_ ?_) | (refine ed_eql ?_) | (refine ed_neq ?_) | (refine drawn tysOk mixed (by kernel_rfl) ?_) | fail))); all_goals (try (conv => whnf)))
  refine loop_rule tysOk [4] (fun x : List Int × Int => [(4, .val (.int .i64 x.2))]) (fun x => [(7, b, .arr 3 (intR .i64) x.1 (n : Int).toNat)])
    (fun μ x => x.1.length = n ∧ -1 ≤ x.2 ∧ x.2 < n ∧ (∀ j : Int, x.2 < j → j < n → getI (intR .i64).dflt x.1 j = endL L j) ∧ μ = (x.2 + 1).toNat) n (List.replicate (n : Int).toNat 0, (n : Int) - 1) ?_
  conv => whnf
  refine ⟨by ((repeat (refine ⟨rfl, ?_⟩)); trivial), ⟨rfl, rfl, trivial⟩, ⟨by simp, by dsimp only; omega, by dsimp only; omega, by intro j h1 h2; dsimp only at h1; omega, by dsimp only; omega⟩, ?_⟩
  rintro μ ⟨O, i⟩ ⟨a1, a2, a3, a4, a5⟩
  dsimp only at a1 a2 a3 a4 a5 ⊢
  by_cases hi : 0 ≤ i
  · obtain ⟨w1, w2, w3, w4, w5⟩ := hw.end_ i hi (by omega)
    dsimp only [ptAt] at w3 w4 w5
    ((repeat' ((conv => whnf); (first | (refine Ar.fit (by first | omega | (simp only [lo, hi]; omega)) ?_) | (refine VC.mk (by (first | omega | rfl | assumption | exact Sl.plain (by assumption) (by omega) | (and_intros <;> first | omega | rfl | assumption | (simp only [List.length_set]; omega) | (simp only [List.length_append, List.length_take, List.length_replicate, List.length_cons, List.length_nil]; omega) | (simp only [ByteArray.size_extract, ByteArray.size_append]; omega) | (simp only [List.length_cons, List.length_nil]; omega) | (simp only [Int.toNat_natCast, Int.toNat_one, List.length_take, List.length_cons, List.length_nil] at *; omega)))) ?_) | (refine Br.mk ?_ ?_ <;> intro hb <;> (try (first | (exfalso; omega) | exact absurd rfl hb | exact Bool.noConfusion hb | exact absurd (fun e => Bool.noConfusion e) hb | (exfalso; simp only [List.length_cons, List.length_nil] at hb; omega) | (exfalso; simp only [Int.toNat_natCast, Int.toNat_one, List.length_take, List.length_cons, List.length_nil] at hb; omega)))) | (refine XLoad.of (by assumption) rfl rfl (by omega) (by omega) rfl ?_) | (refine New.mk ?_; intro b hb) | (refine New2.mk ?_; intro b c hb hbc) | (refine NewO.mk ?_; intro b c hb hbc) | (refine SameR.same ?_) | (refine Two.mk ?_ ?_) | (refine Tri.mk ?_ ?_ ?_) | (refine ed_eql ?_) | (refine ed_neq ?_) | (refine drawn tysOk mixed (by kernel_rfl) ?_) | fail))); all_goals (try (conv => whnf)))
    refine loop_rule tysOk [25] (fun x : List Int × Int => [(25, .val (.int .i64 x.2))]) (fun x => [(7, b, .arr 3 (intR .i64) x.1 (n : Int).toNat)])
      (fun μ x => x.1.length = n ∧ 0 ≤ x.2 ∧ x.2 ≤ (getI partR.dflt L i).kids ∧ (∀ j : Int, i < j → j < n → getI (intR .i64).dflt x.1 j = endL L j) ∧ getI (intR .i64).dflt x.1 i = endK L i x.2 ∧ μ = ((getI partR.dflt L i).kids - x.2).toNat) (getI partR.dflt L i).kids.toNat (O.set i.toNat (i + 1), 0) ?_
    conv => whnf
    refine ⟨by ((repeat (refine ⟨rfl, ?_⟩)); trivial), ⟨rfl, rfl, trivial⟩, ⟨by simp [a1], by dsimp only; omega, w3, ?_, ?_, by dsimp only; omega⟩, ?_⟩
    · intro j h1 h2
      dsimp only at h1 ⊢
      rw [getI_set _ O i j _ hi (by omega) (by omega), if_neg (by omega)]
      exact a4 j h1 h2
    · dsimp only
      rw [getI_set _ O i i _ hi (by omega) (by omega), if_pos rfl, endK_zero]
    rintro ν ⟨O2, t⟩ ⟨b1, b2, b3, b4, b5, b6⟩
    dsimp only at b1 b2 b3 b4 b5 b6 ⊢
    by_cases ht : t < (getI partR.dflt L i).kids
    · obtain ⟨s1, s2, s3⟩ := endK_step hw i t hi (by omega) b2 ht
      rw [← b5] at s1 s2 s3
      have s4 := b4 _ s1 (by omega)
      ((repeat' ((conv => whnf); (first | (refine Ar.fit (by first | omega | (simp only [lo, hi]; omega)) ?_) | (refine VC.mk (by (first | omega | rfl | assumption | exact Sl.plain (by assumption) (by omega) | (and_intros <;> first | omega | rfl | assumption | (simp only [List.length_set]; omega) | (simp only [List.length_append, List.length_take, List.length_replicate, List.length_cons, List.length_nil]; omega) | (simp only [ByteArray.size_extract, ByteArray.size_append]; omega) | (simp only [List.length_cons, List.length_nil]; omega) | (simp only [Int.toNat_natCast, Int.toNat_one, List.length_take, List.length_cons, List.length_nil] at *; omega)))) ?_) | (refine Br.mk ?_ ?_ <;> intro hb <;> (try (first | (exfalso; omega) | exact absurd rfl hb | exact Bool.noConfusion hb | exact absurd (fun e => Bool.noConfusion e) hb | (exfalso; simp only [List.length_cons, List.length_nil] at hb; omega) | (exfalso; simp only [Int.toNat_natCast, Int.toNat_one, List.length_take, List.length_cons, List.length_nil] at hb; omega)))) | (refine XLoad.of (by assumption) rfl rfl (by omega) (by omega) rfl ?_) | (refine New.mk ?_; intro b hb) | (refine New2.mk ?_; intro b c hb hbc) | (refine NewO.mk ?_; intro b c hb hbc) | (refine SameR.same ?_) | (refine Two.mk ?_ ?_) | (refine Tri.mk ?_ ?_ ?_) | (refine ed_eql ?_) | (refine ed_neq ?_) | (refine drawn tysOk mixed (by kernel_rfl) ?_) | fail))); all_goals (try (conv => whnf)))
      refine ⟨ν - 1, (_, t + 1), ⟨by dsimp only; rw [List.length_set]; exact b1, by dsimp only; omega, by dsimp only; omega, fun j h1 h2 => ?_, ?_, by dsimp only; omega⟩, by omega, by ((repeat (refine ⟨rfl, ?_⟩)); trivial), rfl, rfl, ⟨rfl, rfl, trivial⟩⟩
      · dsimp only
        rw [getI_set _ O2 i j _ hi (by omega) (by omega), if_neg (by omega)]
        exact b4 j h1 h2
      · dsimp only
        rw [getI_set _ O2 i i _ hi (by omega) (by omega), if_pos rfl, s4, s3]
    · have : t = (getI partR.dflt L i).kids := by omega
      subst this
      ((repeat' ((conv => whnf); (first | (refine Ar.fit (by first | omega | (simp only [lo, hi]; omega)) ?_) | (refine VC.mk (by (first | omega | rfl | assumption | exact Sl.plain (by assumption) (by omega) | (and_intros <;> first | omega | rfl | assumption | (simp only [List.length_set]; omega) | (simp only [List.length_append, List.length_take, List.length_replicate, List.length_cons, List.length_nil]; omega) | (simp only [ByteArray.size_extract, ByteArray.size_append]; omega) | (simp only [List.length_cons, List.length_nil]; omega) | (simp only [Int.toNat_natCast, Int.toNat_one, List.length_take, List.length_cons, List.length_nil] at *; omega)))) ?_) | (refine Br.mk ?_ ?_ <;> intro hb <;> (try (first | (exfalso; omega) | exact absurd rfl hb | exact Bool.noConfusion hb | exact absurd (fun e => Bool.noConfusion e) hb | (exfalso; simp only [List.length_cons, List.length_nil] at hb; omega) | (exfalso; simp only [Int.toNat_natCast, Int.toNat_one, List.length_take, List.length_cons, List.length_nil] at hb; omega)))) | (refine XLoad.of (by assumption) rfl rfl (by omega) (by omega) rfl ?_) | (refine New.mk ?_; intro b hb) | (refine New2.mk ?_; intro b c hb hbc) | (refine NewO.mk ?_; intro b c hb hbc) | (refine SameR.same ?_) | (refine Two.mk ?_ ?_) | (refine Tri.mk ?_ ?_ ?_) | (refine ed_eql ?_) | (refine ed_neq ?_) | (refine drawn tysOk mixed (by kernel_rfl) ?_) | fail))); all_goals (try (conv => whnf)))
      refine ⟨μ - 1, (O2, i - 1), ⟨b1, by dsimp only; omega, by dsimp only; omega, fun j h1 h2 => ?_, by dsimp only; omega⟩, by omega, by ((repeat (refine ⟨rfl, ?_⟩)); trivial), rfl, rfl, ⟨rfl, rfl, trivial⟩⟩
      dsimp only at h1 ⊢
      by_cases hj : j = i
      · subst hj; rw [b5, w5]
      · exact b4 j (by omega) h2
  · have hi1 : i = -1 := by omega
    subst hi1
    have hO := endsL_ext L O _ (by omega) (fun j h0 h1 => a4 j (by omega) (by omega))
    subst hO
    ((repeat' ((conv => whnf); (first | (refine Ar.fit (by first | omega | (simp only [lo, hi]; omega)) ?_) | (refine VC.mk (by (first | omega | rfl | assumption | exact Sl.plain (by assumption) (by omega) | (and_intros <;> first | omega | rfl | assumption | (simp only [List.length_set]; omega) | (simp only [List.length_append, List.length_take, List.length_replicate, List.length_cons, List.length_nil]; omega) | (simp only [ByteArray.size_extract, ByteArray.size_append]; omega) | (simp only [List.length_cons, List.length_nil]; omega) | (simp only [Int.toNat_natCast, Int.toNat_one, List.length_take, List.length_cons, List.length_nil] at *; omega)))) ?_) | (refine Br.mk ?_ ?_ <;> intro hb <;> (try (first | (exfalso; omega) | exact absurd rfl hb | exact Bool.noConfusion hb | exact absurd (fun e => Bool.noConfusion e) hb | (exfalso; simp only [List.length_cons, List.length_nil] at hb; omega) | (exfalso; simp only [Int.toNat_natCast, Int.toNat_one, List.length_take, List.length_cons, List.length_nil] at hb; omega)))) | (refine XLoad.of (by assumption) rfl rfl (by omega) (by omega) rfl ?_) | (refine New.mk ?_; intro b hb) | (refine New2.mk ?_; intro b c hb hbc) | (refine NewO.mk ?_; intro b c hb hbc) | (refine SameR.same ?_) | (refine Two.mk ?_ ?_) | (refine Tri.mk ?_ ?_ ?_) | (refine ed_eql ?_) | (refine ed_neq ?_) | (refine drawn tysOk mixed (by kernel_rfl) ?_) | fail))); all_goals (try (conv => whnf)))
    all_goals exact ⟨fun h' hs => ⟨hs.own (k := 7) rfl (by rw [endsL_len, hlen]), hs.grows⟩⟩
end Go.Ex
