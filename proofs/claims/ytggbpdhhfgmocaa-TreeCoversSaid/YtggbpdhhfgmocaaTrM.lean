/-
  Tree: the law of owners.
-/
import Derived.Test.YtggbpdhhfgmocaaTrL
namespace Go.Ex
open Go.Proofs
set_option linter.unusedVariables false
attribute [local irreducible] CallsH

def InN (L : List Nd) (t j : Int) : Prop := (nd L j).f ≤ t ∧ t < (nd L j).t
def OwnsT (L : List Nd) (E : List Int) (t j : Int) : Prop := InN L t j ∧ ∀ q ∈ kch E (nd L j).c.toNat (j + 1), ¬ InN L t q
/-- just one node from k up to e owns a token: the last one that has it -/
def Just (L : List Nd) (E : List Int) (t k e : Int) : Prop := ∃ j0, k ≤ j0 ∧ j0 < e ∧ OwnsT L E t j0 ∧ (∀ j, k ≤ j → j < e → OwnsT L E t j → j = j0) ∧ ∀ j, k ≤ j → j < e → InN L t j → j ≤ j0
theorem Kd.kids_in {L : List Nd} {n : Int} {E : List Int} (hE : EndsOk L E) {p k c d e : Int} (h : Kd L (lcP L n) (pcP L) p k c d e) : ∀ q ∈ kch E c.toNat k, d ≤ (nd L q).f ∧ (nd L q).t ≤ (nd L p).t := by
  induction h with
  | nil => intro q hq; simp [kch] at hq
  | cons p k c d m e hc h0 hk h3 h4 h1 h2 i1 i2 =>
    intro q hq
    rw [show c.toNat = (c - 1).toNat + 1 by omega] at hq
    have em : getI 0 E k = m := Kd.uniq (hE.at_ k h0 hk) h1
    simp only [kch, em] at hq
    rcases List.mem_cons.1 hq with rfl | hq
    · exact ⟨h3.1, h3.2.1⟩
    · have := i2 q hq
      have h5 : (nd L k).f ≤ (nd L k).t := h4.2.2.2.2.1
      have := h3.1
      omega
theorem Kd.owners {L : List Nd} {n t : Int} {E : List Int} (hE : EndsOk L E) {p k c d e : Int} (h : Kd L (lcP L n) (pcP L) p k c d e) :
    ((∃ q ∈ kch E c.toNat k, InN L t q) → Just L E t k e) ∧ ((∀ q ∈ kch E c.toNat k, ¬ InN L t q) → ∀ j, k ≤ j → j < e → ¬ InN L t j) := by
  induction h with
  | nil => exact ⟨fun ⟨q, hq, _⟩ => by simp [kch] at hq, fun _ j h1 h2 => by omega⟩
  | cons p k c d m e hc h0 hk h3 h4 h1 h2 i1 i2 =>
    have em : getI 0 E k = m := Kd.uniq (hE.at_ k h0 hk) h1
    have hcs : kch E c.toNat k = k :: kch E (c - 1).toNat m := by
      rw [show c.toNat = (c - 1).toNat + 1 by omega]; simp only [kch, em]
    rw [hcs]
    have g1 := h1.ge
    have g2 := h2.ge
    have g3 := h1.pos
    have g4 := h2.pos
    have hin := h1.kids_in hE
    have hre := h2.kids_in hE
    by_cases hk2 : InN L t k
    · have hrest : ∀ j, m ≤ j → j < e → ¬ InN L t j := i2.2 fun q hq hi => by
        have := hre q hq
        obtain ⟨a, b⟩ := hk2
        obtain ⟨a', b'⟩ := hi
        omega
      refine ⟨fun _ => ?_, fun hn => absurd hk2 (hn k List.mem_cons_self)⟩
      by_cases hex : ∃ q ∈ kch E (nd L k).c.toNat (k + 1), InN L t q
      · obtain ⟨j0, a1, a2, a3, a4, a5⟩ := i1.1 hex
        refine ⟨j0, by omega, by omega, a3, fun j b1 b2 b3 => ?_, fun j b1 b2 b3 => ?_⟩
        · by_cases hj : j = k
          · subst hj
            obtain ⟨q, hq, hi⟩ := hex
            exact absurd hi (b3.2 q hq)
          · by_cases hj2 : j < m
            · exact a4 j (by omega) hj2 b3
            · exact absurd b3.1 (hrest j (by omega) b2)
        · by_cases hj : j = k
          · omega
          · by_cases hj2 : j < m
            · exact a5 j (by omega) hj2 b3
            · exact absurd b3 (hrest j (by omega) b2)
      · have hno : ∀ q ∈ kch E (nd L k).c.toNat (k + 1), ¬ InN L t q := fun q hq hi => hex ⟨q, hq, hi⟩
        have hsub := i1.2 hno
        refine ⟨k, Int.le_refl _, by omega, ⟨hk2, hno⟩, fun j b1 b2 b3 => ?_, fun j b1 b2 b3 => ?_⟩
        · by_cases hj : j = k
          · exact hj
          · by_cases hj2 : j < m
            · exact absurd b3.1 (hsub j (by omega) hj2)
            · exact absurd b3.1 (hrest j (by omega) b2)
        · by_cases hj : j = k
          · omega
          · by_cases hj2 : j < m
            · exact absurd b3 (hsub j (by omega) hj2)
            · exact absurd b3 (hrest j (by omega) b2)
    · have hsub : ∀ j, k + 1 ≤ j → j < m → ¬ InN L t j := i1.2 fun q hq hi => hk2 (by
        have := hin q hq
        obtain ⟨a', b'⟩ := hi
        exact ⟨by omega, by omega⟩)
      refine ⟨fun ⟨q, hq, hi⟩ => ?_, fun hn j b1 b2 b3 => ?_⟩
      · rcases List.mem_cons.1 hq with rfl | hq
        · exact absurd hi hk2
        · obtain ⟨j0, a1, a2, a3, a4, a5⟩ := i2.1 ⟨q, hq, hi⟩
          refine ⟨j0, by omega, by omega, a3, fun j b1 b2 b3 => ?_, fun j b1 b2 b3 => ?_⟩
          · by_cases hj2 : m ≤ j
            · exact a4 j hj2 b2 b3
            · by_cases hj : j = k
              · subst hj; exact absurd b3.1 hk2
              · exact absurd b3.1 (hsub j (by omega) (by omega))
          · by_cases hj2 : m ≤ j
            · exact a5 j hj2 b2 b3
            · by_cases hj : j = k
              · subst hj; exact absurd b3 hk2
              · exact absurd b3 (hsub j (by omega) (by omega))
      · by_cases hj : j = k
        · subst hj; exact hk2 b3
        · by_cases hj2 : j < m
          · exact hsub j (by omega) hj2 b3
          · exact i2.2 (fun q hq => hn q (List.mem_cons_of_mem _ hq)) j (by omega) b2 b3
theorem overGo_is {L : List Nd} {t j0 : Int} : ∀ n : Nat, 0 ≤ j0 → j0 < n → InN L t j0 → (∀ j : Int, j0 < j → j < n → ¬ InN L t j) → overGo L t n = j0
  | 0, h0, h1, _, _ => by omega
  | n + 1, h0, h1, h2, h3 => by
    simp only [overGo]
    by_cases hj : j0 = n
    · subst hj
      have h2' : (nd L n).f ≤ t ∧ t < (nd L n).t := h2
      rw [if_pos h2']
    · have h2' : ¬ ((nd L n).f ≤ t ∧ t < (nd L n).t) := h3 n (by omega) (by omega)
      rw [if_neg h2']
      exact overGo_is n h0 (by omega) h2 fun j a b => h3 j a (by omega)
theorem TreeP.owner {L : List Nd} {t : Int} (ht : TreeP L mostT) (h : InN L t 0) : ∃ j0 : Int, 0 ≤ j0 ∧ j0 < L.length ∧ overV L t = j0 ∧ ∀ j : Int, 0 ≤ j → j < L.length → (t ∈ ownV L j ↔ j = j0) := by
  obtain ⟨E, U, D, p1, p2, p3, p4⟩ := ht.root.all
  have hown : ∀ j : Int, 0 ≤ j → j < L.length → (t ∈ ownV L j ↔ OwnsT L E t j) := fun j h0 h1 => by
    have hh : Has L j := ⟨ht, h0, h1⟩
    rw [hh.own, List.mem_filter, hh.ends p1]
    have hr : t ∈ rng (nd L j).f (nd L j).t ↔ InN L t j := by
      constructor
      · exact fun h => rng_mem h
      · rintro ⟨a, b⟩
        simp only [rng, List.mem_map, List.mem_range]
        exact ⟨(t - (nd L j).f).toNat, by omega, by omega⟩
    rw [hr]
    simp only [OwnsT, mineB, List.all_eq_true, InN]
    refine and_congr_right fun _ => forall_congr' fun q => imp_congr_right fun _ => ?_
    simp; omega
  have hk := (ht.2.2.owners (t := t) p1)
  have h00 := ht.1
  have key : ∃ j0 : Int, 0 ≤ j0 ∧ j0 < (L.length : Int) ∧ OwnsT L E t j0 ∧ (∀ j, 0 ≤ j → j < (L.length : Int) → OwnsT L E t j → j = j0) ∧ ∀ j, 0 ≤ j → j < (L.length : Int) → InN L t j → j ≤ j0 := by
    by_cases hex : ∃ q ∈ kch E (nd L 0).c.toNat 1, InN L t q
    · obtain ⟨j0, a1, a2, a3, a4, a5⟩ := hk.1 hex
      refine ⟨j0, by omega, a2, a3, fun j b1 b2 b3 => ?_, fun j b1 b2 b3 => ?_⟩
      · by_cases hj : j = 0
        · subst hj
          obtain ⟨q, hq, hi⟩ := hex
          exact absurd hi (b3.2 q hq)
        · exact a4 j (by omega) b2 b3
      · by_cases hj : j = 0
        · omega
        · exact a5 j (by omega) b2 b3
    · have hno : ∀ q ∈ kch E (nd L 0).c.toNat 1, ¬ InN L t q := fun q hq hi => hex ⟨q, hq, hi⟩
      have hsub := hk.2 hno
      refine ⟨0, Int.le_refl _, by omega, ⟨h, hno⟩, fun j b1 b2 b3 => ?_, fun j b1 b2 b3 => ?_⟩
      · by_cases hj : j = 0
        · exact hj
        · exact absurd b3.1 (hsub j (by omega) b2)
      · by_cases hj : j = 0
        · omega
        · exact absurd b3 (hsub j (by omega) b2)
  obtain ⟨j0, a1, a2, a3, a4, a5⟩ := key
  refine ⟨j0, a1, a2, ?_, fun j b1 b2 => ?_⟩
  · rw [overV, if_pos ht]
    exact overGo_is L.length a1 a2 a3.1 fun j b1 b2 b3 => by have := a5 j (by omega) b2 b3; omega
  · rw [hown j b1 b2]
    exact ⟨fun h => a4 j b1 b2 h, fun h => by subst h; exact a3⟩
theorem rng_lt : ∀ (n : Nat) (a b : Int), (b - a).toNat = n → (rng a b).Pairwise (· < ·)
  | 0, a, b, h => by rw [rng_nil (by omega)]; exact .nil
  | n + 1, a, b, h => by
    rw [rng_cons (by omega)]
    exact List.pairwise_cons.2 ⟨fun x hx => by have := rng_mem hx; omega, rng_lt n (a + 1) b (by omega)⟩
theorem Has.own_lt {L : List Nd} {i : Int} (h : Has L i) : (ownV L i).Pairwise (· < ·) := by
  rw [h.own]
  exact (rng_lt _ _ _ rfl).filter _
theorem Has.own_len {L : List Nd} {i : Int} (h : Has L i) : (ownV L i).length ≤ 131072 := by
  have hl := h.1.lc i h.2.1 h.2.2
  simp only [lcP, mostT] at hl
  rw [h.own]
  refine Nat.le_trans (List.length_filter_le _ _) ?_
  simp only [rng, List.length_map, List.length_range]
  omega
theorem nodup_take {X : List Int} (h : X.Pairwise (· < ·)) (k : Int) (h0 : 0 ≤ k) (h1 : k < X.length) : getI 0 X k ∉ X.take k.toNat := by
  have e : X = X.take k.toNat ++ X.drop k.toNat := (List.take_append_drop _ _).symm
  rw [e] at h
  have := (List.pairwise_append.1 h).2.2
  intro hm
  have h2 := this _ hm (getI 0 X k) (by rw [drop_get 0 X k h0 h1]; exact List.mem_cons_self)
  omega
set_option maxHeartbeats 4000000 in
set_option maxRecDepth 10000 in
theorem covers_law (A : Option Addr) (len cap : Nat) (L : List Nd) (h : Heap) (hA : Sl ndR h A len L) (hr : len * 40 ≤ 140737488355328) :
    CallsH Try.prog 4 #[.slice A len cap] h fun v h' => v = .bool true ∧ Grows h h' := by
  refine enter (rep := rep) (m := 9) (ex := []) (cu := []) tysOk Try.func4 rfl (by decide) (rs := [.tmp 2]) rfl rfl [.val (.slice A len cap)] rfl ?_
  have hL := hA.len_eq
  have hCk := fun h hA => check_any A len cap L 200 h hA hr
  by_cases ht2 : TreeP L 200
  · have hc : checkV L 200 = 0 := by rw [checkV, if_neg (by omega), if_pos ht2]
    rw [hc] at hCk
    have ht : TreeP L mostT := by
      obtain ⟨a, b, c⟩ := ht2
      have up : ∀ i, lcP L 200 i → lcP L mostT i := fun i h => by simp only [lcP, mostT] at h ⊢; omega
      exact ⟨a, up _ b, c.mono up (fun _ _ _ h => h) _⟩
    by_cases h60 : len ≤ 60
    · have h00 := ht.1
      have hl0 := ht2.lc 0 (by omega) (by omega)
      simp only [lcP, nd] at hl0
      ((repeat' ((conv => whnf); (first | (refine Ar.fit (by omega) ?_) | (refine VC.mk (by (first | omega | rfl | assumption | exact Sl.plain (by assumption) (by omega) | (and_intros <;> first | omega | rfl | assumption | (simp only [List.length_set]; omega) | (simp only [ByteArray.size_extract, ByteArray.size_append]; omega) | (simp only [List.length_cons, List.length_nil]; omega) | (simp only [Int.toNat_natCast, Int.toNat_one, List.length_take, List.length_cons, List.length_nil] at *; omega)))) ?_) | (refine Br.mk ?_ ?_ <;> intro hb <;> (try (first | (exfalso; omega) | exact absurd rfl hb | exact Bool.noConfusion hb | exact absurd (fun e => Bool.noConfusion e) hb | (exfalso; simp only [List.length_cons, List.length_nil] at hb; omega) | (exfalso; simp only [Int.toNat_natCast, Int.toNat_one, List.length_take, List.length_cons, List.length_nil] at hb; omega)))) | (refine XLoad.of (by assumption) rfl rfl (by omega) (by omega) rfl ?_) | (refine New.mk ?_; intro b hb) | (refine New2.mk ?_; intro b c hb hbc) | (refine SameR.same ?_) | (refine Two.mk ?_ ?_) | (refine ed_eql ?_) | (refine ed_neq ?_) | (refine drawn tysOk mixed (by kernel_rfl) ?_) | (apply CallK.pure; (case hh => (intro h1 hs; exact hCk _ (hA.grows hs.grows)))) | fail))); all_goals (try (conv => whnf)))
      refine loop_rule tysOk [3] (fun x : Int => [(3, .val (.int .i64 x))]) (fun _ => []) (fun μ x => (getI ndR.dflt L 0).f ≤ x ∧ x ≤ (getI ndR.dflt L 0).t ∧ μ = ((getI ndR.dflt L 0).t - x).toNat) ((getI ndR.dflt L 0).t - (getI ndR.dflt L 0).f).toNat (getI ndR.dflt L 0).f ?_
      conv => whnf
      refine ⟨by ((repeat (refine ⟨rfl, ?_⟩)); trivial), trivial, ⟨Int.le_refl _, by omega, rfl⟩, ?_⟩
      rintro μ t ⟨a0, a1, a2⟩
      by_cases hi : t < (getI ndR.dflt L 0).t
      · obtain ⟨j0, w1, w2, w3, w4⟩ := ht.owner (t := t) ⟨a0, hi⟩
        have hOv := fun h hA => over_any A len cap L t h hA hr
        rw [w3] at hOv
        ((repeat' ((conv => whnf); (first | (refine Ar.fit (by omega) ?_) | (refine VC.mk (by (first | omega | rfl | assumption | exact Sl.plain (by assumption) (by omega) | (and_intros <;> first | omega | rfl | assumption | (simp only [List.length_set]; omega) | (simp only [ByteArray.size_extract, ByteArray.size_append]; omega) | (simp only [List.length_cons, List.length_nil]; omega) | (simp only [Int.toNat_natCast, Int.toNat_one, List.length_take, List.length_cons, List.length_nil] at *; omega)))) ?_) | (refine Br.mk ?_ ?_ <;> intro hb <;> (try (first | (exfalso; omega) | exact absurd rfl hb | exact Bool.noConfusion hb | exact absurd (fun e => Bool.noConfusion e) hb | (exfalso; simp only [List.length_cons, List.length_nil] at hb; omega) | (exfalso; simp only [Int.toNat_natCast, Int.toNat_one, List.length_take, List.length_cons, List.length_nil] at hb; omega)))) | (refine XLoad.of (by assumption) rfl rfl (by omega) (by omega) rfl ?_) | (refine New.mk ?_; intro b hb) | (refine New2.mk ?_; intro b c hb hbc) | (refine SameR.same ?_) | (refine Two.mk ?_ ?_) | (refine ed_eql ?_) | (refine ed_neq ?_) | (refine drawn tysOk mixed (by kernel_rfl) ?_) | fail))); all_goals (try (conv => whnf)))
        refine loop_rule tysOk [4, 5, 6] (fun x : Int × Int × Int => [(4, .val (.int .i64 x.1)), (5, .val (.int .i64 x.2.1)), (6, .val (.int .i64 x.2.2))]) (fun _ => []) (fun μ x => 0 ≤ x.2.2 ∧ x.2.2 ≤ len ∧ μ = (len - x.2.2).toNat ∧ (j0 < x.2.2 → x.1 = j0 ∧ x.2.1 = 1) ∧ (¬ j0 < x.2.2 → x.1 = -1 ∧ x.2.1 = 0)) len (-1, 0, 0) ?_
        conv => whnf
        refine ⟨by ((repeat (refine ⟨rfl, ?_⟩)); trivial), trivial, ⟨by simp, by simp, by simp, fun h => by dsimp only at h; omega, fun _ => ⟨rfl, rfl⟩⟩, ?_⟩
        rintro ν ⟨ow, ct, i⟩ ⟨b0, b1, b2, b3, b4⟩
        dsimp only at b0 b1 b2 b3 b4 ⊢
        by_cases hil : i < len
        · have hh : Has L i := ⟨ht, b0, by omega⟩
          have hno := hh.own_lt
          have hmem := w4 i b0 (by omega)
          have hKc := fun h hA => own_any A len cap L i h hA hr
          have hkl := hh.own_len
          generalize ownV L i = K at hno hmem hKc hkl
          ((repeat' ((conv => whnf); (first | (refine Ar.fit (by omega) ?_) | (refine VC.mk (by (first | omega | rfl | assumption | exact Sl.plain (by assumption) (by omega) | (and_intros <;> first | omega | rfl | assumption | (simp only [List.length_set]; omega) | (simp only [ByteArray.size_extract, ByteArray.size_append]; omega) | (simp only [List.length_cons, List.length_nil]; omega) | (simp only [Int.toNat_natCast, Int.toNat_one, List.length_take, List.length_cons, List.length_nil] at *; omega)))) ?_) | (refine Br.mk ?_ ?_ <;> intro hb <;> (try (first | (exfalso; omega) | exact absurd rfl hb | exact Bool.noConfusion hb | exact absurd (fun e => Bool.noConfusion e) hb | (exfalso; simp only [List.length_cons, List.length_nil] at hb; omega) | (exfalso; simp only [Int.toNat_natCast, Int.toNat_one, List.length_take, List.length_cons, List.length_nil] at hb; omega)))) | (refine XLoad.of (by assumption) rfl rfl (by omega) (by omega) rfl ?_) | (refine New.mk ?_; intro b hb) | (refine New2.mk ?_; intro b c hb hbc) | (refine SameR.same ?_) | (refine Two.mk ?_ ?_) | (refine ed_eql ?_) | (refine ed_neq ?_) | (refine drawn tysOk mixed (by kernel_rfl) ?_) | fail))); all_goals (try (conv => whnf)))
          refine CallK.fresh (R := intR .i64) (T := 3) (L := K) 101 (fun v => v) (fun kv => kv) rfl (fun _ _ _ => rfl) (fun h1 hs => (hKc h1 (hA.grows hs.grows)).mono fun v h' ⟨a, b⟩ => ⟨v, rfl, a, b⟩) (fun e => ?_) (fun b c hb hbc => ?_)
          · subst e
            have hne : ¬ i = j0 := fun e => by have := hmem.2 e; simp at this
            ((repeat' ((conv => whnf); (first | (refine Ar.fit (by omega) ?_) | (refine VC.mk (by (first | omega | rfl | assumption | exact Sl.plain (by assumption) (by omega) | (and_intros <;> first | omega | rfl | assumption | (simp only [List.length_set]; omega) | (simp only [ByteArray.size_extract, ByteArray.size_append]; omega) | (simp only [List.length_cons, List.length_nil]; omega) | (simp only [Int.toNat_natCast, Int.toNat_one, List.length_take, List.length_cons, List.length_nil] at *; omega)))) ?_) | (refine Br.mk ?_ ?_ <;> intro hb <;> (try (first | (exfalso; omega) | exact absurd rfl hb | exact Bool.noConfusion hb | exact absurd (fun e => Bool.noConfusion e) hb | (exfalso; simp only [List.length_cons, List.length_nil] at hb; omega) | (exfalso; simp only [Int.toNat_natCast, Int.toNat_one, List.length_take, List.length_cons, List.length_nil] at hb; omega)))) | (refine XLoad.of (by assumption) rfl rfl (by omega) (by omega) rfl ?_) | (refine New.mk ?_; intro b hb) | (refine New2.mk ?_; intro b c hb hbc) | (refine SameR.same ?_) | (refine Two.mk ?_ ?_) | (refine ed_eql ?_) | (refine ed_neq ?_) | (refine drawn tysOk mixed (by kernel_rfl) ?_) | fail))); all_goals (try (conv => whnf)))
            refine loop_rule tysOk [8] (fun x : Int => [(8, .val (.int .i64 x))]) (fun _ => []) (fun μ x => x = 0) 0 0 ?_
            conv => whnf
            refine ⟨by ((repeat (refine ⟨rfl, ?_⟩)); trivial), trivial, rfl, ?_⟩
            rintro ξ k hk
            subst hk
            ((repeat' ((conv => whnf); (first | (refine Ar.fit (by omega) ?_) | (refine VC.mk (by (first | omega | rfl | assumption | exact Sl.plain (by assumption) (by omega) | (and_intros <;> first | omega | rfl | assumption | (simp only [List.length_set]; omega) | (simp only [ByteArray.size_extract, ByteArray.size_append]; omega) | (simp only [List.length_cons, List.length_nil]; omega) | (simp only [Int.toNat_natCast, Int.toNat_one, List.length_take, List.length_cons, List.length_nil] at *; omega)))) ?_) | (refine Br.mk ?_ ?_ <;> intro hb <;> (try (first | (exfalso; omega) | exact absurd rfl hb | exact Bool.noConfusion hb | exact absurd (fun e => Bool.noConfusion e) hb | (exfalso; simp only [List.length_cons, List.length_nil] at hb; omega) | (exfalso; simp only [Int.toNat_natCast, Int.toNat_one, List.length_take, List.length_cons, List.length_nil] at hb; omega)))) | (refine XLoad.of (by assumption) rfl rfl (by omega) (by omega) rfl ?_) | (refine New.mk ?_; intro b hb) | (refine New2.mk ?_; intro b c hb hbc) | (refine SameR.same ?_) | (refine Two.mk ?_ ?_) | (refine ed_eql ?_) | (refine ed_neq ?_) | (refine drawn tysOk mixed (by kernel_rfl) ?_) | fail))); all_goals (try (conv => whnf)))
            refine ⟨ν - 1, ⟨ow, ct, i + 1⟩, ⟨by dsimp only; omega, by dsimp only; omega, by dsimp only; omega, fun h => b3 (by dsimp only at h; omega), fun h => b4 (by dsimp only at h; omega)⟩, by omega, by ((repeat (refine ⟨rfl, ?_⟩)); trivial), rfl, rfl, trivial⟩
          · ((repeat' ((conv => whnf); (first | (refine Ar.fit (by omega) ?_) | (refine VC.mk (by (first | omega | rfl | assumption | exact Sl.plain (by assumption) (by omega) | (and_intros <;> first | omega | rfl | assumption | (simp only [List.length_set]; omega) | (simp only [ByteArray.size_extract, ByteArray.size_append]; omega) | (simp only [List.length_cons, List.length_nil]; omega) | (simp only [Int.toNat_natCast, Int.toNat_one, List.length_take, List.length_cons, List.length_nil] at *; omega)))) ?_) | (refine Br.mk ?_ ?_ <;> intro hb <;> (try (first | (exfalso; omega) | exact absurd rfl hb | exact Bool.noConfusion hb | exact absurd (fun e => Bool.noConfusion e) hb | (exfalso; simp only [List.length_cons, List.length_nil] at hb; omega) | (exfalso; simp only [Int.toNat_natCast, Int.toNat_one, List.length_take, List.length_cons, List.length_nil] at hb; omega)))) | (refine XLoad.of (by assumption) rfl rfl (by omega) (by omega) rfl ?_) | (refine New.mk ?_; intro b hb) | (refine New2.mk ?_; intro b c hb hbc) | (refine SameR.same ?_) | (refine Two.mk ?_ ?_) | (refine ed_eql ?_) | (refine ed_neq ?_) | (refine drawn tysOk mixed (by kernel_rfl) ?_) | fail))); all_goals (try (conv => whnf)))
            refine loop_rule tysOk [4, 5, 8] (fun x : Int × Int × Int => [(4, .val (.int .i64 x.1)), (5, .val (.int .i64 x.2.1)), (8, .val (.int .i64 x.2.2))]) (fun _ => [(101, b, .arr 3 (intR .i64) K c)]) (fun μ x => 0 ≤ x.2.2 ∧ x.2.2 ≤ K.length ∧ μ = (K.length - x.2.2).toNat ∧ (t ∈ K.take x.2.2.toNat → x.1 = i ∧ x.2.1 = ct + 1) ∧ (t ∉ K.take x.2.2.toNat → x.1 = ow ∧ x.2.1 = ct)) K.length (ow, ct, 0) ?_
            conv => whnf
            refine ⟨by ((repeat (refine ⟨rfl, ?_⟩)); trivial), ⟨rfl, rfl, trivial⟩, ⟨by simp, by simp, by simp, fun h => by simp at h, fun _ => ⟨rfl, rfl⟩⟩, ?_⟩
            rintro ξ ⟨ow2, ct2, k⟩ ⟨c0, c1, c2, c3, c4⟩
            dsimp only at c0 c1 c2 c3 c4 ⊢
            have z1 : getI (intR .i64).dflt K k = getI 0 K k := rfl
            have hct : 0 ≤ ct ∧ ct ≤ 1 := by
              by_cases hj : j0 < i
              · have := b3 hj; omega
              · have := b4 hj; omega
            by_cases hk : k < K.length
            · have hnd := nodup_take hno k c0 hk
              have hts := take_snoc K k c0 hk
              have hc2 : ct2 = ct ∨ ct2 = ct + 1 := by
                by_cases hm : t ∈ K.take k.toNat
                · have := c3 hm; omega
                · have := c4 hm; omega
              ((repeat' ((conv => whnf); (first | (refine Ar.fit (by omega) ?_) | (refine VC.mk (by (first | omega | rfl | assumption | exact Sl.plain (by assumption) (by omega) | (and_intros <;> first | omega | rfl | assumption | (simp only [List.length_set]; omega) | (simp only [ByteArray.size_extract, ByteArray.size_append]; omega) | (simp only [List.length_cons, List.length_nil]; omega) | (simp only [Int.toNat_natCast, Int.toNat_one, List.length_take, List.length_cons, List.length_nil] at *; omega)))) ?_) | (refine Br.mk ?_ ?_ <;> intro hb <;> (try (first | (exfalso; omega) | exact absurd rfl hb | exact Bool.noConfusion hb | exact absurd (fun e => Bool.noConfusion e) hb | (exfalso; simp only [List.length_cons, List.length_nil] at hb; omega) | (exfalso; simp only [Int.toNat_natCast, Int.toNat_one, List.length_take, List.length_cons, List.length_nil] at hb; omega)))) | (refine XLoad.of (by assumption) rfl rfl (by omega) (by omega) rfl ?_) | (refine New.mk ?_; intro b hb) | (refine New2.mk ?_; intro b c hb hbc) | (refine SameR.same ?_) | (refine Two.mk ?_ ?_) | (refine ed_eql ?_) | (refine ed_neq ?_) | (refine drawn tysOk mixed (by kernel_rfl) ?_) | fail))); all_goals (try (conv => whnf)))
              · have ht' : getI 0 K k = t := by omega
                rw [ht'] at hnd hts
                have := c4 hnd
                refine ⟨ξ - 1, ⟨i, ct2 + 1, k + 1⟩, ⟨by dsimp only; omega, by dsimp only; omega, by dsimp only; omega, fun _ => ⟨rfl, by dsimp only; omega⟩, fun h => absurd (by dsimp only; rw [hts]; simp) h⟩, by omega, by ((repeat (refine ⟨rfl, ?_⟩)); trivial), rfl, rfl, ⟨rfl, rfl, trivial⟩⟩
              · have ht' : ¬ t = getI 0 K k := by omega
                have hiff : t ∈ K.take (k + 1).toNat ↔ t ∈ K.take k.toNat := by rw [hts]; simp [ht']
                refine ⟨ξ - 1, ⟨ow2, ct2, k + 1⟩, ⟨by dsimp only; omega, by dsimp only; omega, by dsimp only; omega, fun h => c3 (hiff.1 h), fun h => c4 (fun h' => h (hiff.2 h'))⟩, by omega, by ((repeat (refine ⟨rfl, ?_⟩)); trivial), rfl, rfl, ⟨rfl, rfl, trivial⟩⟩
            · have hall : K.take k.toNat = K := List.take_of_length_le (by omega)
              rw [hall] at c3 c4
              ((repeat' ((conv => whnf); (first | (refine Ar.fit (by omega) ?_) | (refine VC.mk (by (first | omega | rfl | assumption | exact Sl.plain (by assumption) (by omega) | (and_intros <;> first | omega | rfl | assumption | (simp only [List.length_set]; omega) | (simp only [ByteArray.size_extract, ByteArray.size_append]; omega) | (simp only [List.length_cons, List.length_nil]; omega) | (simp only [Int.toNat_natCast, Int.toNat_one, List.length_take, List.length_cons, List.length_nil] at *; omega)))) ?_) | (refine Br.mk ?_ ?_ <;> intro hb <;> (try (first | (exfalso; omega) | exact absurd rfl hb | exact Bool.noConfusion hb | exact absurd (fun e => Bool.noConfusion e) hb | (exfalso; simp only [List.length_cons, List.length_nil] at hb; omega) | (exfalso; simp only [Int.toNat_natCast, Int.toNat_one, List.length_take, List.length_cons, List.length_nil] at hb; omega)))) | (refine XLoad.of (by assumption) rfl rfl (by omega) (by omega) rfl ?_) | (refine New.mk ?_; intro b hb) | (refine New2.mk ?_; intro b c hb hbc) | (refine SameR.same ?_) | (refine Two.mk ?_ ?_) | (refine ed_eql ?_) | (refine ed_neq ?_) | (refine drawn tysOk mixed (by kernel_rfl) ?_) | fail))); all_goals (try (conv => whnf)))
              by_cases hij : i = j0
              · obtain ⟨d1, d2⟩ := c3 (hmem.2 hij)
                have := b4 (by omega)
                refine ⟨ν - 1, ⟨ow2, ct2, i + 1⟩, ⟨by dsimp only; omega, by dsimp only; omega, by dsimp only; omega, fun h => ⟨by dsimp only; omega, by dsimp only; omega⟩, fun h => by dsimp only at h; omega⟩, by omega, by ((repeat (refine ⟨rfl, ?_⟩)); trivial), rfl, rfl, trivial⟩
              · obtain ⟨d1, d2⟩ := c4 (fun h => hij (hmem.1 h))
                subst d1 d2
                refine ⟨ν - 1, ⟨ow2, ct2, i + 1⟩, ⟨by dsimp only; omega, by dsimp only; omega, by dsimp only; omega, fun h => b3 (by dsimp only at h; omega), fun h => b4 (by dsimp only at h; omega)⟩, by omega, by ((repeat (refine ⟨rfl, ?_⟩)); trivial), rfl, rfl, trivial⟩
        · obtain ⟨d1, d2⟩ := b3 (by omega)
          subst d1 d2
          ((repeat' ((conv => whnf); (first | (refine Ar.fit (by omega) ?_) | (refine VC.mk (by (first | omega | rfl | assumption | exact Sl.plain (by assumption) (by omega) | (and_intros <;> first | omega | rfl | assumption | (simp only [List.length_set]; omega) | (simp only [ByteArray.size_extract, ByteArray.size_append]; omega) | (simp only [List.length_cons, List.length_nil]; omega) | (simp only [Int.toNat_natCast, Int.toNat_one, List.length_take, List.length_cons, List.length_nil] at *; omega)))) ?_) | (refine Br.mk ?_ ?_ <;> intro hb <;> (try (first | (exfalso; omega) | exact absurd rfl hb | exact Bool.noConfusion hb | exact absurd (fun e => Bool.noConfusion e) hb | (exfalso; simp only [List.length_cons, List.length_nil] at hb; omega) | (exfalso; simp only [Int.toNat_natCast, Int.toNat_one, List.length_take, List.length_cons, List.length_nil] at hb; omega)))) | (refine XLoad.of (by assumption) rfl rfl (by omega) (by omega) rfl ?_) | (refine New.mk ?_; intro b hb) | (refine New2.mk ?_; intro b c hb hbc) | (refine SameR.same ?_) | (refine Two.mk ?_ ?_) | (refine ed_eql ?_) | (refine ed_neq ?_) | (refine drawn tysOk mixed (by kernel_rfl) ?_) | (apply CallK.pure; (case hh => (intro h1 hs; exact hOv _ (hA.grows hs.grows)))) | fail))); all_goals (try (conv => whnf)))
          refine ⟨μ - 1, t + 1, ⟨by omega, by omega, by omega⟩, by omega, by ((repeat (refine ⟨rfl, ?_⟩)); trivial), rfl, rfl, trivial⟩
      · ((repeat' ((conv => whnf); (first | (refine Ar.fit (by omega) ?_) | (refine VC.mk (by (first | omega | rfl | assumption | exact Sl.plain (by assumption) (by omega) | (and_intros <;> first | omega | rfl | assumption | (simp only [List.length_set]; omega) | (simp only [ByteArray.size_extract, ByteArray.size_append]; omega) | (simp only [List.length_cons, List.length_nil]; omega) | (simp only [Int.toNat_natCast, Int.toNat_one, List.length_take, List.length_cons, List.length_nil] at *; omega)))) ?_) | (refine Br.mk ?_ ?_ <;> intro hb <;> (try (first | (exfalso; omega) | exact absurd rfl hb | exact Bool.noConfusion hb | exact absurd (fun e => Bool.noConfusion e) hb | (exfalso; simp only [List.length_cons, List.length_nil] at hb; omega) | (exfalso; simp only [Int.toNat_natCast, Int.toNat_one, List.length_take, List.length_cons, List.length_nil] at hb; omega)))) | (refine XLoad.of (by assumption) rfl rfl (by omega) (by omega) rfl ?_) | (refine New.mk ?_; intro b hb) | (refine New2.mk ?_; intro b c hb hbc) | (refine SameR.same ?_) | (refine Two.mk ?_ ?_) | (refine ed_eql ?_) | (refine ed_neq ?_) | (refine drawn tysOk mixed (by kernel_rfl) ?_) | (apply CallK.pure; (case hh => (intro h1 hs; exact fixed_any h1))) | fail))); all_goals (try (conv => whnf)))
        exact ⟨fun h' hs => ⟨prop_true rfl, hs.grows⟩⟩
    · ((repeat' ((conv => whnf); (first | (refine Ar.fit (by omega) ?_) | (refine VC.mk (by (first | omega | rfl | assumption | exact Sl.plain (by assumption) (by omega) | (and_intros <;> first | omega | rfl | assumption | (simp only [List.length_set]; omega) | (simp only [ByteArray.size_extract, ByteArray.size_append]; omega) | (simp only [List.length_cons, List.length_nil]; omega) | (simp only [Int.toNat_natCast, Int.toNat_one, List.length_take, List.length_cons, List.length_nil] at *; omega)))) ?_) | (refine Br.mk ?_ ?_ <;> intro hb <;> (try (first | (exfalso; omega) | exact absurd rfl hb | exact Bool.noConfusion hb | exact absurd (fun e => Bool.noConfusion e) hb | (exfalso; simp only [List.length_cons, List.length_nil] at hb; omega) | (exfalso; simp only [Int.toNat_natCast, Int.toNat_one, List.length_take, List.length_cons, List.length_nil] at hb; omega)))) | (refine XLoad.of (by assumption) rfl rfl (by omega) (by omega) rfl ?_) | (refine New.mk ?_; intro b hb) | (refine New2.mk ?_; intro b c hb hbc) | (refine SameR.same ?_) | (refine Two.mk ?_ ?_) | (refine ed_eql ?_) | (refine ed_neq ?_) | (refine drawn tysOk mixed (by kernel_rfl) ?_) | (apply CallK.pure; (case hh => (intro h1 hs; exact fixed_any h1))) | (apply CallK.pure; (case hh => (intro h1 hs; exact hCk _ (hA.grows hs.grows)))) | fail))); all_goals (try (conv => whnf)))
      all_goals exact ⟨fun h' hs => ⟨prop_true rfl, hs.grows⟩⟩
  · have hc : checkV L 200 = 8 := by rw [checkV, if_neg (by omega), if_neg ht2]
    rw [hc] at hCk
    ((repeat' ((conv => whnf); (first | (refine Ar.fit (by omega) ?_) | (refine VC.mk (by (first | omega | rfl | assumption | exact Sl.plain (by assumption) (by omega) | (and_intros <;> first | omega | rfl | assumption | (simp only [List.length_set]; omega) | (simp only [ByteArray.size_extract, ByteArray.size_append]; omega) | (simp only [List.length_cons, List.length_nil]; omega) | (simp only [Int.toNat_natCast, Int.toNat_one, List.length_take, List.length_cons, List.length_nil] at *; omega)))) ?_) | (refine Br.mk ?_ ?_ <;> intro hb <;> (try (first | (exfalso; omega) | exact absurd rfl hb | exact Bool.noConfusion hb | exact absurd (fun e => Bool.noConfusion e) hb | (exfalso; simp only [List.length_cons, List.length_nil] at hb; omega) | (exfalso; simp only [Int.toNat_natCast, Int.toNat_one, List.length_take, List.length_cons, List.length_nil] at hb; omega)))) | (refine XLoad.of (by assumption) rfl rfl (by omega) (by omega) rfl ?_) | (refine New.mk ?_; intro b hb) | (refine New2.mk ?_; intro b c hb hbc) | (refine SameR.same ?_) | (refine Two.mk ?_ ?_) | (refine ed_eql ?_) | (refine ed_neq ?_) | (refine drawn tysOk mixed (by kernel_rfl) ?_) | (apply CallK.pure; (case hh => (intro h1 hs; exact fixed_any h1))) | (apply CallK.pure; (case hh => (intro h1 hs; exact hCk _ (hA.grows hs.grows)))) | fail))); all_goals (try (conv => whnf)))
    all_goals exact ⟨fun h' hs => ⟨prop_true rfl, hs.grows⟩⟩
end Go.Ex
