/-
  Pick: the law PickApart, walked.
-/
import Derived.Test.YtinelelkjbdaiaaPkX
namespace Go.Ex
open Go.Proofs
set_option linter.unusedVariables false
set_option linter.unusedSimpArgs false
attribute [local irreducible] CallsH

theorem amAt_cons (x : Am) (R : List Am) (i : Int) (h : 1 ≤ i) : amAt (x :: R) i = amAt R (i - 1) := by
  simp only [amAt, getI, List.getD]
  rw [show i.toNat = (i - 1).toNat + 1 by omega, List.getElem?_cons_succ]
theorem mem_amAt {X : List Am} {x : Am} (h : x ∈ X) : ∃ i : Int, 0 ≤ i ∧ i < X.length ∧ amAt X i = x := by
  obtain ⟨i, hi, e⟩ := List.mem_iff_getElem.1 h
  refine ⟨i, by omega, by omega, ?_⟩
  simp only [amAt, getI, List.getD, Int.toNat_natCast]
  rw [List.getElem?_eq_getElem hi]; exact e
theorem Picks.mem {L : List Pt} {X : List Am} {f : Int} {R : List Am} (h : Picks L X f R) : ∀ a ∈ R, a ∈ X := by
  induction h with
  | done f h => intro a ha; cases ha
  | step f i R h0 h1 hf hl hr ih =>
    intro a ha
    rcases List.mem_cons.1 ha with rfl | ha
    · exact amAt_mem h0 h1
    · exact ih a ha
theorem Picks.first {L : List Pt} {X : List Am} (hw : WellL L) (hg : ∀ a ∈ X, GoodM L a) {f : Int} {R : List Am} (h : Picks L X f R) : ∀ a ∈ R, f ≤ a.part := by
  induction h with
  | done f h => intro a ha; cases ha
  | step f i R h0 h1 hf hl hr ih =>
    intro a ha
    rcases List.mem_cons.1 ha with rfl | ha
    · exact hf
    · have g := hg _ (amAt_mem h0 h1)
      have := (hw.end_ _ g.1 g.2.1).1
      have := ih a ha
      omega
theorem Picks.chain {L : List Pt} {X : List Am} (hw : WellL L) (hg : ∀ a ∈ X, GoodM L a) {f : Int} {R : List Am} (h : Picks L X f R) : ∀ i : Int, 1 ≤ i → i < R.length → endL L (amAt R (i - 1)).part ≤ (amAt R i).part := by
  induction h with
  | done f h => intro i h0 h1; simp at h1; omega
  | step f i R h0 h1 hf hl hr ih =>
    intro k k0 k1
    simp only [List.length_cons] at k1
    rw [amAt_cons _ R k k0]
    by_cases hk : k = 1
    · subst hk
      exact hr.first hw hg _ (amAt_mem (by omega) (by omega))
    · rw [amAt_cons _ R (k - 1) (by omega)]
      exact ih (k - 1) (by omega) (by omega)
theorem Picks.cover {L : List Pt} {X : List Am} {f : Int} {R : List Am} (h : Picks L X f R) : ∀ x ∈ X, f ≤ x.part → ∃ r ∈ R, r.part ≤ x.part ∧ x.part < endL L r.part := by
  induction h with
  | done f h =>
    intro x hx hf
    obtain ⟨i, i0, i1, rfl⟩ := mem_amAt hx
    have := h i i0 i1
    omega
  | step f i R h0 h1 hf hl hr ih =>
    intro x hx hfx
    by_cases hlt : x.part < endL L (amAt X i).part
    · obtain ⟨j, j0, j1, rfl⟩ := mem_amAt hx
      have := hl j j0 j1 hfx
      simp only [LtX] at this
      exact ⟨_, List.mem_cons_self, by omega, hlt⟩
    · obtain ⟨r, hr, h2⟩ := ih x hx (by omega)
      exact ⟨r, List.mem_cons_of_mem _ hr, h2⟩
theorem Picks.selfGo {L : List Pt} {X : List Am} (hw : WellL L) (hg : ∀ a ∈ X, GoodM L a) {f : Int} {R : List Am} (h : Picks L X f R) : ∀ pre : List Am, (∀ a ∈ pre, a.part < f) → Picks L (pre ++ R) f R := by
  induction h with
  | done f h =>
    intro pre hp
    refine .done f fun i i0 i1 => ?_
    rw [List.append_nil] at i1 ⊢
    exact hp _ (amAt_mem i0 i1)
  | step f i R h0 h1 hf hl hr ih =>
    intro pre hp
    obtain ⟨x, hx⟩ : ∃ x, x = amAt X i := ⟨_, rfl⟩
    rw [← hx] at hf hr ih ⊢
    have g := hg _ (amAt_mem h0 h1)
    rw [← hx] at g
    have he := (hw.end_ _ g.1 g.2.1).1
    have hat : amAt (pre ++ x :: R) pre.length = x := by simp [amAt, getI, List.getD]
    have ih2 := ih (pre ++ [x]) (fun a ha => by
      rcases List.mem_append.1 ha with ha | ha
      · have := hp a ha; omega
      · have := List.mem_singleton.1 ha; subst this; exact he)
    rw [List.append_assoc] at ih2
    have hs := Picks.step (L := L) (X := pre ++ x :: R) f pre.length R (by omega) (by simp; omega) (by rw [hat]; exact hf) (fun j j0 j1 jp hlt => ?_) (by rw [hat]; exact ih2)
    · rw [hat] at hs; exact hs
    · simp only [LtX] at hlt
      rw [hat] at hlt
      by_cases hj : j < pre.length
      · have : amAt (pre ++ x :: R) j = amAt pre j := by
          simp only [amAt, getI, List.getD]
          rw [List.getElem?_append_left (by omega)]
        rw [this] at jp
        have := hp _ (amAt_mem j0 hj)
        omega
      · by_cases hj2 : j = pre.length
        · subst hj2; rw [hat] at hlt; omega
        · have hm : amAt (pre ++ x :: R) j ∈ R := by
            have e : amAt (pre ++ x :: R) j = amAt R (j - pre.length - 1) := by
              simp only [amAt, getI, List.getD]
              rw [List.getElem?_append_right (by omega), show j.toNat - pre.length = (j - pre.length - 1).toNat + 1 by omega, List.getElem?_cons_succ]
            rw [e]
            simp only [List.length_append, List.length_cons] at j1
            exact amAt_mem (by omega) (by omega)
          have := hr.first hw hg _ hm
          omega
theorem Picks.self {L : List Pt} {X : List Am} (hw : WellL L) (hg : ∀ a ∈ X, GoodM L a) {R : List Am} (h : Picks L X 0 R) : Res L R 0 R :=
  .inr (.inr ⟨hw, fun a ha => hg a (h.mem a ha), rfl, h.selfGo hw hg [] (fun a ha => by cases ha)⟩)
theorem Picks.len {L : List Pt} {X : List Am} (hw : WellL L) (hg : ∀ a ∈ X, GoodM L a) {f : Int} {R : List Am} (h : Picks L X f R) : f ≤ L.length → (R.length : Int) ≤ L.length - f := by
  induction h with
  | done f h => intro hf; simp; omega
  | step f i R h0 h1 hf hl hr ih =>
    intro hfl
    have g := hg _ (amAt_mem h0 h1)
    obtain ⟨e1, e2, _⟩ := hw.end_ _ g.1 g.2.1
    have := ih e2
    simp only [List.length_cons]
    omega
/-- what slots hold, by what it says -/
def HasD (K : Kn) : Kn → Prop
  | [] => True
  | (t, v) :: r => (∃ u, lk K t = some u ∧ den u = den v) ∧ HasD K r
theorem HasD.get {K : Kn} : ∀ {L : Kn}, HasD K L → ∀ t v, lk L t = some v → ∃ u, lk K t = some u ∧ den u = den v
  | [], _, t, v, h => by simp [lk] at h
  | (s, u) :: r, hh, t, v, h => by
    by_cases e : s = t
    · subst e; rw [lk_cons_eq] at h; cases h; exact hh.1
    · rw [lk_cons_ne e] at h; exact HasD.get hh.2 t v h
theorem Good.like {n : Nat} {a : Act} {K K' : Kn} (h : Good n a K) (hs : ∀ t v, lk K' t = some v → ∃ u, lk K t = some u ∧ den u = den v) : Good n a K' :=
  ⟨h.size, h.defers, fun t v hv => by obtain ⟨u, h1, h2⟩ := hs t v hv; rw [← h2]; exact h.knows t u h1⟩
theorem loop_den {P : Program} {ty : Nat → Option TyI} {rep : Nat → Option RepS} {n m : Nat} {ex cu : List Nat} {S : St} {K : Kn} {X : Esc} {κ : Kt} (hty : TysOk P ty) {c : Code} {α : Type} (cs : List Nat) (l : α → Kn) (sc : α → Chs) (φ : Nat → α → Prop) (m0 : Nat) (x0 : α)
    (h : dropK cs K [] fun K0 => HasK K (l x0 ++ K0) ∧ HasC S.ch (sc x0) ∧ φ m0 x0 ∧ ∀ μ x, φ μ x →
      codeK P ty rep n m ex cu c X (fun K' S' => ∃ μ' x', φ μ' x' ∧ μ' < μ ∧ HasD K' (l x' ++ K0) ∧ S'.h0 = S.h0 ∧ S'.cap = S.cap ∧ HasC S'.ch (sc x')) (l x ++ K0) ⟨S.h0, S.cap, sc x⟩) :
    Leaf P n ty rep m ex cu (.loop c) X κ K S := ⟨fun w0 a w ha he hs => by
  obtain ⟨K0, h1, h2, h3, h4⟩ := drop_sound h
  refine wp_loop_ghost (fun μ a w => ∃ x, φ μ x ∧ Good n a (l x ++ K0) ∧ SameEnv w0 w ∧ HS ⟨S.h0, S.cap, sc x⟩ w.heap) m0 ⟨x0, h3, ha.drop h1.get, he, h2.hs hs⟩ ?_
  rintro μ a w ⟨x, hx, ha, he, hs⟩
  have := codeK_sound hty c X _ _ _ (h4 μ x hx) w0 a w ha he hs
  refine Code.wp_mono ?_ this
  intro e a w hq
  cases e with
  | normal =>
    obtain ⟨K', S', a1, a2, a3, μ', x', b1, b2, b3, b4, b5, b6⟩ := hq
    refine ⟨μ', b2, x', b1, a1.like b3.get, a2, ?_⟩
    have := b6.hs a3
    rwa [b4, b5] at this
  | exit i => exact hq
  | ret => exact hq
  | panic ch => exact hq
  | goto l => exact hq
  | outgrown => exact hq⟩
/-- a match stands at or within one of the first that were picked -/
def Over (L : List Pt) (RA : List Am) (x : Am) (i : Int) : Prop := ∃ j : Int, 0 ≤ j ∧ j < i ∧ (amAt RA j).part ≤ x.part ∧ x.part < endL L (amAt RA j).part
set_option maxHeartbeats 2000000 in
set_option maxRecDepth 10000 in
theorem apart_law (A : Option Addr) (n c : Nat) (L : List Pt) (B : Option Addr) (k c2 : Nat) (M : List Mt) (X : List Am) (h : Heap) (hL : Sl partR h A n L) (hM : Sl matR h B k M)
    (hX : All2 (RM h) M X) (hbz : ∀ a ∈ X, a.bs.length * 32 ≤ 140737488355328) :
    CallsH Try.prog 4 #[.slice A n c, .slice B k c2] h fun v h' => v = .bool true ∧ Grows h h' := by
  refine enter (rep := rep) (m := 14) (ex := [16, 25, 39, 43, 61, 65, 81, 85, 91, 124]) (cu := []) tysOk Try.func4 rfl (by decide) (rs := [.tmp 4]) rfl rfl [.val (.slice A n c), .val (.slice B k c2)] rfl ?_
  have hlen := hL.len_eq
  have hmlen := hM.len_eq
  have hXl := hX.len
  by_cases hgr : 300 < n ∨ 300 < k
  · ((repeat' ((conv => whnf); (first | (refine Ar.fit (by first | omega | (simp only [lo, hi]; omega)) ?_) | (refine VC.mk (by (first | omega | rfl | assumption | exact Sl.plain (by assumption) (by omega) | (and_intros <;> first | omega | rfl | assumption | (simp only [List.length_set]; omega) | (simp only [List.length_append, List.length_take, List.length_replicate, List.length_cons, List.length_nil]; omega) | (simp only [ByteArray.size_extract, ByteArray.size_append]; omega) | (simp only [List.length_cons, List.length_nil]; omega) | (simp only [Int.toNat_natCast, Int.toNat_one, List.length_take, List.length_cons, List.length_nil] at *; omega)))) ?_) | (refine Br.mk ?_ ?_ <;> intro hb <;> (try (first | (exfalso; omega) | exact absurd rfl hb | exact Bool.noConfusion hb | exact absurd (fun e => Bool.noConfusion e) hb | (exfalso; simp only [List.length_cons, List.length_nil] at hb; omega) | (exfalso; simp only [Int.toNat_natCast, Int.toNat_one, List.length_take, List.length_cons, List.length_nil] at hb; omega)))) | (refine XLoad.of (by assumption) rfl rfl (by omega) (by omega) rfl ?_) | (refine New.mk ?_; intro b hb) | (refine New2.mk ?_; intro b c hb hbc) | (refine NewO.mk ?_; intro b c hb hbc) | (refine SameR.same ?_) | (refine Two.mk ?_ ?_) | (refine Tri.mk ?_ ?_ ?_) | (refine ed_eql ?_) | (refine ed_neq ?_) | (refine drawn tysOk mixed (by kernel_rfl) ?_) | (apply CallK.pure; (case hh => (intro h1 hs; exact (great_any _ _ _ _ _ _ h1).mono (fun v h' ⟨e1, e2⟩ => ⟨e1.trans (prop_true hgr), e2⟩)))) | (apply CallK.pure; (case hh => (intro h1 hs; exact fixed_any h1))) | fail))); all_goals (try (conv => whnf)))
    exact ⟨fun h' hs => ⟨prop_true rfl, hs.grows⟩⟩
  ((repeat' ((conv => whnf); (first | (refine Ar.fit (by first | omega | (simp only [lo, hi]; omega)) ?_) | (refine VC.mk (by (first | omega | rfl | assumption | exact Sl.plain (by assumption) (by omega) | (and_intros <;> first | omega | rfl | assumption | (simp only [List.length_set]; omega) | (simp only [List.length_append, List.length_take, List.length_replicate, List.length_cons, List.length_nil]; omega) | (simp only [ByteArray.size_extract, ByteArray.size_append]; omega) | (simp only [List.length_cons, List.length_nil]; omega) | (simp only [Int.toNat_natCast, Int.toNat_one, List.length_take, List.length_cons, List.length_nil] at *; omega)))) ?_) | (refine Br.mk ?_ ?_ <;> intro hb <;> (try (first | (exfalso; omega) | exact absurd rfl hb | exact Bool.noConfusion hb | exact absurd (fun e => Bool.noConfusion e) hb | (exfalso; simp only [List.length_cons, List.length_nil] at hb; omega) | (exfalso; simp only [Int.toNat_natCast, Int.toNat_one, List.length_take, List.length_cons, List.length_nil] at hb; omega)))) | (refine XLoad.of (by assumption) rfl rfl (by omega) (by omega) rfl ?_) | (refine New.mk ?_; intro b hb) | (refine New2.mk ?_; intro b c hb hbc) | (refine NewO.mk ?_; intro b c hb hbc) | (refine SameR.same ?_) | (refine Two.mk ?_ ?_) | (refine Tri.mk ?_ ?_ ?_) | (refine ed_eql ?_) | (refine ed_neq ?_) | (refine drawn tysOk mixed (by kernel_rfl) ?_) | (apply CallK.pure; (case hh => (intro h1 hs; exact (great_any _ _ _ _ _ _ h1).mono (fun v h' ⟨e1, e2⟩ => ⟨e1.trans (prop_false hgr), e2⟩)))) | fail))); all_goals (try (conv => whnf)))
  refine CallK.epoch (fun h1 hq => pick_any A n _ L _ k _ M X h1 (hL.grows hq.grows) (by omega) (hM.grows hq.grows) (by omega) (RMs.grows hX hq.grows) hbz) ?_
  rintro h1 u h2 hq ⟨⟨C, d, e, er, R, RA, rfl, hr, hn⟩, hg⟩
  have g2 := hq.grows.trans hg
  obtain ⟨hC, hR⟩ := hn.sl
  have hCl := hC.len_eq
  have hRl := hR.len
  have hL2 := hL.grows g2
  have hM2 := hM.grows g2
  clear hn
  have hcase : (∃ e1 : Int, er = e1 ∧ (e1 = 8 ∨ e1 = 1) ∧ RA = []) ∨ (WellL L ∧ (∀ a ∈ X, GoodM L a) ∧ er = 0 ∧ Picks L X 0 RA) := by
    rcases hr with ⟨_, rfl, rfl⟩ | ⟨_, _, rfl, rfl⟩ | h
    · exact .inl ⟨8, rfl, .inl rfl, rfl⟩
    · exact .inl ⟨1, rfl, .inr rfl, rfl⟩
    · exact .inr h
  rcases hcase with ⟨e1, rfl, he1, rfl⟩ | ⟨hw, hgd, rfl, hp⟩
  · simp only [List.length_nil] at hRl
    have hd0 : d = 0 := by omega
    subst hd0
    ((repeat' ((conv => whnf); (first | (refine Ar.fit (by first | omega | (simp only [lo, hi]; omega)) ?_) | (refine VC.mk (by (first | omega | rfl | assumption | exact Sl.plain (by assumption) (by omega) | (and_intros <;> first | omega | rfl | assumption | (simp only [List.length_set]; omega) | (simp only [List.length_append, List.length_take, List.length_replicate, List.length_cons, List.length_nil]; omega) | (simp only [ByteArray.size_extract, ByteArray.size_append]; omega) | (simp only [List.length_cons, List.length_nil]; omega) | (simp only [Int.toNat_natCast, Int.toNat_one, List.length_take, List.length_cons, List.length_nil] at *; omega)))) ?_) | (refine Br.mk ?_ ?_ <;> intro hb <;> (try (first | (exfalso; omega) | exact absurd rfl hb | exact Bool.noConfusion hb | exact absurd (fun e => Bool.noConfusion e) hb | (exfalso; simp only [List.length_cons, List.length_nil] at hb; omega) | (exfalso; simp only [Int.toNat_natCast, Int.toNat_one, List.length_take, List.length_cons, List.length_nil] at hb; omega)))) | (refine XLoad.of (by assumption) rfl rfl (by omega) (by omega) rfl ?_) | (refine New.mk ?_; intro b hb) | (refine New2.mk ?_; intro b c hb hbc) | (refine NewO.mk ?_; intro b c hb hbc) | (refine SameR.same ?_) | (refine Two.mk ?_ ?_) | (refine Tri.mk ?_ ?_ ?_) | (refine ed_eql ?_) | (refine ed_neq ?_) | (refine drawn tysOk mixed (by kernel_rfl) ?_) | (apply CallK.pure; (case hh => (intro h1 hs; exact fixed_any h1))) | fail))); all_goals (try (conv => whnf)))
    all_goals exact ⟨fun h' hs => ⟨prop_true rfl, g2.trans hs.grows⟩⟩
  have hRn := hp.len hw hgd (by omega)
  have hgR : ∀ a ∈ RA, GoodM L a := fun a ha => hgd a (hp.mem a ha)
  ((repeat' ((conv => whnf); (first | (refine Ar.fit (by first | omega | (simp only [lo, hi]; omega)) ?_) | (refine VC.mk (by (first | omega | rfl | assumption | exact Sl.plain (by assumption) (by omega) | (and_intros <;> first | omega | rfl | assumption | (simp only [List.length_set]; omega) | (simp only [List.length_append, List.length_take, List.length_replicate, List.length_cons, List.length_nil]; omega) | (simp only [ByteArray.size_extract, ByteArray.size_append]; omega) | (simp only [List.length_cons, List.length_nil]; omega) | (simp only [Int.toNat_natCast, Int.toNat_one, List.length_take, List.length_cons, List.length_nil] at *; omega)))) ?_) | (refine Br.mk ?_ ?_ <;> intro hb <;> (try (first | (exfalso; omega) | exact absurd rfl hb | exact Bool.noConfusion hb | exact absurd (fun e => Bool.noConfusion e) hb | (exfalso; simp only [List.length_cons, List.length_nil] at hb; omega) | (exfalso; simp only [Int.toNat_natCast, Int.toNat_one, List.length_take, List.length_cons, List.length_nil] at hb; omega)))) | (refine XLoad.of (by assumption) rfl rfl (by omega) (by omega) rfl ?_) | (refine New.mk ?_; intro b hb) | (refine New2.mk ?_; intro b c hb hbc) | (refine NewO.mk ?_; intro b c hb hbc) | (refine SameR.same ?_) | (refine Two.mk ?_ ?_) | (refine Tri.mk ?_ ?_ ?_) | (refine ed_eql ?_) | (refine ed_neq ?_) | (refine drawn tysOk mixed (by kernel_rfl) ?_) | (apply CallK.pure; (case hh => (intro h1 hs; exact fixed_any h1))) | (apply CallK.pure; (case hh => (intro h1 hs; exact (rwell_any _ _ _ L h1 (hL2.grows hs.grows) (by omega)).mono (fun v h' ⟨e1, e2⟩ => ⟨e1.trans (prop_true hw), e2⟩)))) | (apply CallK.pure; (case hh => (intro h1 hs; exact (pwell_any _ _ _ L h1 (hL2.grows hs.grows) (by omega)).mono (fun v h' ⟨e1, e2⟩ => ⟨e1.trans (prop_true hw), e2⟩)))) | fail))); all_goals (try (conv => whnf)))
  refine loop_rule tysOk [7] (fun i : Int => [(7, .val (.int .i64 i))]) (fun _ => []) (fun μ i => 0 ≤ i ∧ i ≤ d ∧ μ = (d - i).toNat) d 0 ?_
  conv => whnf
  refine ⟨by ((repeat (refine ⟨rfl, ?_⟩)); trivial), trivial, ⟨by omega, by omega, by omega⟩, ?_⟩
  rintro μ i ⟨d1, d2, d3⟩
  dsimp only
  by_cases hi : i < d
  · have hx := hR.get matR.dflt ⟨0, 0, []⟩ i d1 (by omega)
    have hxp : (getI matR.dflt R i).part = (amAt RA i).part := hx.2.1
    obtain ⟨z1, z2, z3⟩ := hgR _ (amAt_mem (X := RA) d1 (by omega))
    rw [← hxp] at z1 z2
    ((repeat' ((conv => whnf); (first | (refine Ar.fit (by first | omega | (simp only [lo, hi]; omega)) ?_) | (refine VC.mk (by (first | omega | rfl | assumption | exact Sl.plain (by assumption) (by omega) | (and_intros <;> first | omega | rfl | assumption | (simp only [List.length_set]; omega) | (simp only [List.length_append, List.length_take, List.length_replicate, List.length_cons, List.length_nil]; omega) | (simp only [ByteArray.size_extract, ByteArray.size_append]; omega) | (simp only [List.length_cons, List.length_nil]; omega) | (simp only [Int.toNat_natCast, Int.toNat_one, List.length_take, List.length_cons, List.length_nil] at *; omega)))) ?_) | (refine Br.mk ?_ ?_ <;> intro hb <;> (try (first | (exfalso; omega) | exact absurd rfl hb | exact Bool.noConfusion hb | exact absurd (fun e => Bool.noConfusion e) hb | (exfalso; simp only [List.length_cons, List.length_nil] at hb; omega) | (exfalso; simp only [Int.toNat_natCast, Int.toNat_one, List.length_take, List.length_cons, List.length_nil] at hb; omega)))) | (refine XLoad.of (by assumption) rfl rfl (by omega) (by omega) rfl ?_) | (refine New.mk ?_; intro b hb) | (refine New2.mk ?_; intro b c hb hbc) | (refine NewO.mk ?_; intro b c hb hbc) | (refine SameR.same ?_) | (refine Two.mk ?_ ?_) | (refine Tri.mk ?_ ?_ ?_) | (refine ed_eql ?_) | (refine ed_neq ?_) | (refine drawn tysOk mixed (by kernel_rfl) ?_) | fail))); all_goals (try (conv => whnf)))
    exact ⟨μ - 1, i + 1, ⟨by omega, by omega, by omega⟩, by omega, by ((repeat (refine ⟨rfl, ?_⟩)); trivial), rfl, rfl, trivial⟩
  have hid : i = d := by omega
  subst hid
  ((repeat' ((conv => whnf); (first | (refine Ar.fit (by first | omega | (simp only [lo, hi]; omega)) ?_) | (refine VC.mk (by (first | omega | rfl | assumption | exact Sl.plain (by assumption) (by omega) | (and_intros <;> first | omega | rfl | assumption | (simp only [List.length_set]; omega) | (simp only [List.length_append, List.length_take, List.length_replicate, List.length_cons, List.length_nil]; omega) | (simp only [ByteArray.size_extract, ByteArray.size_append]; omega) | (simp only [List.length_cons, List.length_nil]; omega) | (simp only [Int.toNat_natCast, Int.toNat_one, List.length_take, List.length_cons, List.length_nil] at *; omega)))) ?_) | (refine Br.mk ?_ ?_ <;> intro hb <;> (try (first | (exfalso; omega) | exact absurd rfl hb | exact Bool.noConfusion hb | exact absurd (fun e => Bool.noConfusion e) hb | (exfalso; simp only [List.length_cons, List.length_nil] at hb; omega) | (exfalso; simp only [Int.toNat_natCast, Int.toNat_one, List.length_take, List.length_cons, List.length_nil] at hb; omega)))) | (refine XLoad.of (by assumption) rfl rfl (by omega) (by omega) rfl ?_) | (refine New.mk ?_; intro b hb) | (refine New2.mk ?_; intro b c hb hbc) | (refine NewO.mk ?_; intro b c hb hbc) | (refine SameR.same ?_) | (refine Two.mk ?_ ?_) | (refine Tri.mk ?_ ?_ ?_) | (refine ed_eql ?_) | (refine ed_neq ?_) | (refine drawn tysOk mixed (by kernel_rfl) ?_) | fail))); all_goals (try (conv => whnf)))
  refine loop_rule tysOk [8] (fun i : Int => [(8, .val (.int .i64 i))]) (fun _ => []) (fun μ i => 1 ≤ i ∧ (i ≤ d ∨ i = 1) ∧ μ = (d - i).toNat) (d - 1) 1 ?_
  conv => whnf
  refine ⟨by ((repeat (refine ⟨rfl, ?_⟩)); trivial), trivial, ⟨by omega, by omega, by omega⟩, ?_⟩
  rintro μ8 i ⟨d1', d2', d3'⟩
  dsimp only
  by_cases hi : i < d
  · have hx := hR.get matR.dflt ⟨0, 0, []⟩ i (by omega) (by omega)
    have hxp : (getI matR.dflt R i).part = (amAt RA i).part := hx.2.1
    have hy := hR.get matR.dflt ⟨0, 0, []⟩ (i - 1) (by omega) (by omega)
    have hyp : (getI matR.dflt R (i - 1)).part = (amAt RA (i - 1)).part := hy.2.1
    have hch := hp.chain hw hgd i d1' (by omega)
    obtain ⟨z1, z2, z3⟩ := hgR _ (amAt_mem (X := RA) (i := i - 1) (by omega) (by omega))
    rw [← hxp, ← hyp] at hch
    rw [← hyp] at z1 z2
    ((repeat' ((conv => whnf); (first | (refine Ar.fit (by first | omega | (simp only [lo, hi]; omega)) ?_) | (refine VC.mk (by (first | omega | rfl | assumption | exact Sl.plain (by assumption) (by omega) | (and_intros <;> first | omega | rfl | assumption | (simp only [List.length_set]; omega) | (simp only [List.length_append, List.length_take, List.length_replicate, List.length_cons, List.length_nil]; omega) | (simp only [ByteArray.size_extract, ByteArray.size_append]; omega) | (simp only [List.length_cons, List.length_nil]; omega) | (simp only [Int.toNat_natCast, Int.toNat_one, List.length_take, List.length_cons, List.length_nil] at *; omega)))) ?_) | (refine Br.mk ?_ ?_ <;> intro hb <;> (try (first | (exfalso; omega) | exact absurd rfl hb | exact Bool.noConfusion hb | exact absurd (fun e => Bool.noConfusion e) hb | (exfalso; simp only [List.length_cons, List.length_nil] at hb; omega) | (exfalso; simp only [Int.toNat_natCast, Int.toNat_one, List.length_take, List.length_cons, List.length_nil] at hb; omega)))) | (refine XLoad.of (by assumption) rfl rfl (by omega) (by omega) rfl ?_) | (refine New.mk ?_; intro b hb) | (refine New2.mk ?_; intro b c hb hbc) | (refine NewO.mk ?_; intro b c hb hbc) | (refine SameR.same ?_) | (refine Two.mk ?_ ?_) | (refine Tri.mk ?_ ?_ ?_) | (refine ed_eql ?_) | (refine ed_neq ?_) | (refine drawn tysOk mixed (by kernel_rfl) ?_) | (apply CallQ.pure; (case hh => (intro h1 hs; exact rend_any _ _ _ L _ h1 (hL2.grows hs.grows) (by omega) (by omega)))) | fail))); all_goals (try (conv => whnf)))
    exact ⟨μ8 - 1, i + 1, ⟨by omega, by omega, by omega⟩, by omega, by ((repeat (refine ⟨rfl, ?_⟩)); trivial), rfl, rfl, trivial⟩
  ((repeat' ((conv => whnf); (first | (refine Ar.fit (by first | omega | (simp only [lo, hi]; omega)) ?_) | (refine VC.mk (by (first | omega | rfl | assumption | exact Sl.plain (by assumption) (by omega) | (and_intros <;> first | omega | rfl | assumption | (simp only [List.length_set]; omega) | (simp only [List.length_append, List.length_take, List.length_replicate, List.length_cons, List.length_nil]; omega) | (simp only [ByteArray.size_extract, ByteArray.size_append]; omega) | (simp only [List.length_cons, List.length_nil]; omega) | (simp only [Int.toNat_natCast, Int.toNat_one, List.length_take, List.length_cons, List.length_nil] at *; omega)))) ?_) | (refine Br.mk ?_ ?_ <;> intro hb <;> (try (first | (exfalso; omega) | exact absurd rfl hb | exact Bool.noConfusion hb | exact absurd (fun e => Bool.noConfusion e) hb | (exfalso; simp only [List.length_cons, List.length_nil] at hb; omega) | (exfalso; simp only [Int.toNat_natCast, Int.toNat_one, List.length_take, List.length_cons, List.length_nil] at hb; omega)))) | (refine XLoad.of (by assumption) rfl rfl (by omega) (by omega) rfl ?_) | (refine New.mk ?_; intro b hb) | (refine New2.mk ?_; intro b c hb hbc) | (refine NewO.mk ?_; intro b c hb hbc) | (refine SameR.same ?_) | (refine Two.mk ?_ ?_) | (refine Tri.mk ?_ ?_ ?_) | (refine ed_eql ?_) | (refine ed_neq ?_) | (refine drawn tysOk mixed (by kernel_rfl) ?_) | fail))); all_goals (try (conv => whnf)))
  refine loop_rule tysOk [9] (fun i : Int => [(9, .val (.int .i64 i))]) (fun _ => []) (fun μ i => 0 ≤ i ∧ i ≤ k ∧ μ = (k - i).toNat) k 0 ?_
  conv => whnf
  refine ⟨by ((repeat (refine ⟨rfl, ?_⟩)); trivial), trivial, ⟨by omega, by omega, by omega⟩, ?_⟩
  rintro μ9 m ⟨m1, m2, m3⟩
  dsimp only
  by_cases hm : m < k
  · have hx := hX.get matR.dflt ⟨0, 0, []⟩ m (by omega) (by omega)
    have hxp : (getI matR.dflt M m).part = (amAt X m).part := hx.2.1
    ((repeat' ((conv => whnf); (first | (refine Ar.fit (by first | omega | (simp only [lo, hi]; omega)) ?_) | (refine VC.mk (by (first | omega | rfl | assumption | exact Sl.plain (by assumption) (by omega) | (and_intros <;> first | omega | rfl | assumption | (simp only [List.length_set]; omega) | (simp only [List.length_append, List.length_take, List.length_replicate, List.length_cons, List.length_nil]; omega) | (simp only [ByteArray.size_extract, ByteArray.size_append]; omega) | (simp only [List.length_cons, List.length_nil]; omega) | (simp only [Int.toNat_natCast, Int.toNat_one, List.length_take, List.length_cons, List.length_nil] at *; omega)))) ?_) | (refine Br.mk ?_ ?_ <;> intro hb <;> (try (first | (exfalso; omega) | exact absurd rfl hb | exact Bool.noConfusion hb | exact absurd (fun e => Bool.noConfusion e) hb | (exfalso; simp only [List.length_cons, List.length_nil] at hb; omega) | (exfalso; simp only [Int.toNat_natCast, Int.toNat_one, List.length_take, List.length_cons, List.length_nil] at hb; omega)))) | (refine XLoad.of (by assumption) rfl rfl (by omega) (by omega) rfl ?_) | (refine New.mk ?_; intro b hb) | (refine New2.mk ?_; intro b c hb hbc) | (refine NewO.mk ?_; intro b c hb hbc) | (refine SameR.same ?_) | (refine Two.mk ?_ ?_) | (refine Tri.mk ?_ ?_ ?_) | (refine ed_eql ?_) | (refine ed_neq ?_) | (refine drawn tysOk mixed (by kernel_rfl) ?_) | fail))); all_goals (try (conv => whnf)))
    refine loop_den tysOk [10, 11] (fun x : Bool × Int => [(10, .val (.bool x.1)), (11, .val (.int .i64 x.2))]) (fun _ => []) (fun μ x => 0 ≤ x.2 ∧ x.2 ≤ d ∧ (x.1 = true ↔ Over L RA (amAt X m) x.2) ∧ μ = (d - x.2).toNat) d (false, 0) ?_
    conv => whnf
    refine ⟨by ((repeat (refine ⟨rfl, ?_⟩)); trivial), trivial, ⟨by simp, by dsimp only; omega, ⟨fun e => (by cases e), fun ⟨j, j0, j1, _⟩ => by dsimp only at j1; omega⟩, by simp⟩, ?_⟩
    rintro μ10 ⟨ov, i⟩ ⟨o1, o2, o3, o4⟩
    dsimp only at o1 o2 o3 o4 ⊢
    by_cases hi : i < d
    · have hy := hR.get matR.dflt ⟨0, 0, []⟩ i (by omega) (by omega)
      have hyp : (getI matR.dflt R i).part = (amAt RA i).part := hy.2.1
      obtain ⟨z1, z2, z3⟩ := hgR _ (amAt_mem (X := RA) (i := i) (by omega) (by omega))
      rw [← hyp] at z1 z2
      rcases ov with _ | _
      · by_cases hc : (getI matR.dflt R i).part ≤ (getI matR.dflt M m).part ∧ (getI matR.dflt M m).part < endL L (getI matR.dflt R i).part
        · have hc' := hc
          rw [hyp, hxp] at hc'
          ((repeat' ((conv => whnf); (first | (refine Ar.fit (by first | omega | (simp only [lo, hi]; omega)) ?_) | (refine VC.mk (by (first | omega | rfl | assumption | exact Sl.plain (by assumption) (by omega) | (and_intros <;> first | omega | rfl | assumption | (simp only [List.length_set]; omega) | (simp only [List.length_append, List.length_take, List.length_replicate, List.length_cons, List.length_nil]; omega) | (simp only [ByteArray.size_extract, ByteArray.size_append]; omega) | (simp only [List.length_cons, List.length_nil]; omega) | (simp only [Int.toNat_natCast, Int.toNat_one, List.length_take, List.length_cons, List.length_nil] at *; omega)))) ?_) | (refine Br.mk ?_ ?_ <;> intro hb <;> (try (first | (exfalso; omega) | exact absurd rfl hb | exact Bool.noConfusion hb | exact absurd (fun e => Bool.noConfusion e) hb | (exfalso; simp only [List.length_cons, List.length_nil] at hb; omega) | (exfalso; simp only [Int.toNat_natCast, Int.toNat_one, List.length_take, List.length_cons, List.length_nil] at hb; omega)))) | (refine XLoad.of (by assumption) rfl rfl (by omega) (by omega) rfl ?_) | (refine New.mk ?_; intro b hb) | (refine New2.mk ?_; intro b c hb hbc) | (refine NewO.mk ?_; intro b c hb hbc) | (refine SameR.same ?_) | (refine Two.mk ?_ ?_) | (refine Tri.mk ?_ ?_ ?_) | (refine ed_eql ?_) | (refine ed_neq ?_) | (refine drawn tysOk mixed (by kernel_rfl) ?_) | (apply CallQ.pure; (case hh => (intro h1 hs; exact rend_any _ _ _ L _ h1 (hL2.grows hs.grows) (by omega) (by omega)))) | fail))); all_goals (try (conv => whnf)))
          all_goals refine ⟨μ10 - 1, (true, i + 1), ⟨by dsimp only; omega, by dsimp only; omega, ⟨fun _ => ⟨i, o1, by dsimp only; omega, hc'⟩, fun _ => rfl⟩, by dsimp only; omega⟩, by omega, by ((repeat (refine ⟨⟨_, rfl, (by first | rfl | exact prop_true (by omega) | exact prop_false (by omega))⟩, ?_⟩)); trivial), rfl, rfl, trivial⟩
        · have hc' := hc
          rw [hyp, hxp] at hc'
          ((repeat' ((conv => whnf); (first | (refine Ar.fit (by first | omega | (simp only [lo, hi]; omega)) ?_) | (refine VC.mk (by (first | omega | rfl | assumption | exact Sl.plain (by assumption) (by omega) | (and_intros <;> first | omega | rfl | assumption | (simp only [List.length_set]; omega) | (simp only [List.length_append, List.length_take, List.length_replicate, List.length_cons, List.length_nil]; omega) | (simp only [ByteArray.size_extract, ByteArray.size_append]; omega) | (simp only [List.length_cons, List.length_nil]; omega) | (simp only [Int.toNat_natCast, Int.toNat_one, List.length_take, List.length_cons, List.length_nil] at *; omega)))) ?_) | (refine Br.mk ?_ ?_ <;> intro hb <;> (try (first | (exfalso; omega) | exact absurd rfl hb | exact Bool.noConfusion hb | exact absurd (fun e => Bool.noConfusion e) hb | (exfalso; simp only [List.length_cons, List.length_nil] at hb; omega) | (exfalso; simp only [Int.toNat_natCast, Int.toNat_one, List.length_take, List.length_cons, List.length_nil] at hb; omega)))) | (refine XLoad.of (by assumption) rfl rfl (by omega) (by omega) rfl ?_) | (refine New.mk ?_; intro b hb) | (refine New2.mk ?_; intro b c hb hbc) | (refine NewO.mk ?_; intro b c hb hbc) | (refine SameR.same ?_) | (refine Two.mk ?_ ?_) | (refine Tri.mk ?_ ?_ ?_) | (refine ed_eql ?_) | (refine ed_neq ?_) | (refine drawn tysOk mixed (by kernel_rfl) ?_) | (apply CallQ.pure; (case hh => (intro h1 hs; exact rend_any _ _ _ L _ h1 (hL2.grows hs.grows) (by omega) (by omega)))) | fail))); all_goals (try (conv => whnf)))
          all_goals refine ⟨μ10 - 1, (false, i + 1), ⟨by dsimp only; omega, by dsimp only; omega, ⟨fun e => (by cases e), fun ⟨j, j0, j1, jc⟩ => ?_⟩, by dsimp only; omega⟩, by omega, by ((repeat (refine ⟨⟨_, rfl, (by first | rfl | exact prop_true (by omega) | exact prop_false (by omega))⟩, ?_⟩)); trivial), rfl, rfl, trivial⟩
          all_goals
            dsimp only at j1
            by_cases hj : j = i
            · subst hj; exact absurd jc hc'
            · exact o3.2 ⟨j, j0, by omega, jc⟩
      · ((repeat' ((conv => whnf); (first | (refine Ar.fit (by first | omega | (simp only [lo, hi]; omega)) ?_) | (refine VC.mk (by (first | omega | rfl | assumption | exact Sl.plain (by assumption) (by omega) | (and_intros <;> first | omega | rfl | assumption | (simp only [List.length_set]; omega) | (simp only [List.length_append, List.length_take, List.length_replicate, List.length_cons, List.length_nil]; omega) | (simp only [ByteArray.size_extract, ByteArray.size_append]; omega) | (simp only [List.length_cons, List.length_nil]; omega) | (simp only [Int.toNat_natCast, Int.toNat_one, List.length_take, List.length_cons, List.length_nil] at *; omega)))) ?_) | (refine Br.mk ?_ ?_ <;> intro hb <;> (try (first | (exfalso; omega) | exact absurd rfl hb | exact Bool.noConfusion hb | exact absurd (fun e => Bool.noConfusion e) hb | (exfalso; simp only [List.length_cons, List.length_nil] at hb; omega) | (exfalso; simp only [Int.toNat_natCast, Int.toNat_one, List.length_take, List.length_cons, List.length_nil] at hb; omega)))) | (refine XLoad.of (by assumption) rfl rfl (by omega) (by omega) rfl ?_) | (refine New.mk ?_; intro b hb) | (refine New2.mk ?_; intro b c hb hbc) | (refine NewO.mk ?_; intro b c hb hbc) | (refine SameR.same ?_) | (refine Two.mk ?_ ?_) | (refine Tri.mk ?_ ?_ ?_) | (refine ed_eql ?_) | (refine ed_neq ?_) | (refine drawn tysOk mixed (by kernel_rfl) ?_) | (apply CallQ.pure; (case hh => (intro h1 hs; exact rend_any _ _ _ L _ h1 (hL2.grows hs.grows) (by omega) (by omega)))) | fail))); all_goals (try (conv => whnf)))
        all_goals refine ⟨μ10 - 1, (true, i + 1), ⟨by dsimp only; omega, by dsimp only; omega, ⟨fun _ => ?_, fun _ => rfl⟩, by dsimp only; omega⟩, by omega, by ((repeat (refine ⟨⟨_, rfl, (by first | rfl | exact prop_true (by omega) | exact prop_false (by omega))⟩, ?_⟩)); trivial), rfl, rfl, trivial⟩
        all_goals
          obtain ⟨j, j0, j1, jc⟩ := o3.1 rfl
          exact ⟨j, j0, by dsimp only; omega, jc⟩
    have hid : i = d := by omega
    subst hid
    have hov : ov = true := o3.2 (by
      obtain ⟨z1, z2, z3⟩ := hgd _ (amAt_mem (X := X) (i := m) (by omega) (by omega))
      obtain ⟨r, hr, hr2⟩ := hp.cover _ (amAt_mem (X := X) (i := m) (by omega) (by omega)) z1
      obtain ⟨j, j0, j1, rfl⟩ := mem_amAt hr
      exact ⟨j, j0, by omega, hr2⟩)
    subst hov
    ((repeat' ((conv => whnf); (first | (refine Ar.fit (by first | omega | (simp only [lo, hi]; omega)) ?_) | (refine VC.mk (by (first | omega | rfl | assumption | exact Sl.plain (by assumption) (by omega) | (and_intros <;> first | omega | rfl | assumption | (simp only [List.length_set]; omega) | (simp only [List.length_append, List.length_take, List.length_replicate, List.length_cons, List.length_nil]; omega) | (simp only [ByteArray.size_extract, ByteArray.size_append]; omega) | (simp only [List.length_cons, List.length_nil]; omega) | (simp only [Int.toNat_natCast, Int.toNat_one, List.length_take, List.length_cons, List.length_nil] at *; omega)))) ?_) | (refine Br.mk ?_ ?_ <;> intro hb <;> (try (first | (exfalso; omega) | exact absurd rfl hb | exact Bool.noConfusion hb | exact absurd (fun e => Bool.noConfusion e) hb | (exfalso; simp only [List.length_cons, List.length_nil] at hb; omega) | (exfalso; simp only [Int.toNat_natCast, Int.toNat_one, List.length_take, List.length_cons, List.length_nil] at hb; omega)))) | (refine XLoad.of (by assumption) rfl rfl (by omega) (by omega) rfl ?_) | (refine New.mk ?_; intro b hb) | (refine New2.mk ?_; intro b c hb hbc) | (refine NewO.mk ?_; intro b c hb hbc) | (refine SameR.same ?_) | (refine Two.mk ?_ ?_) | (refine Tri.mk ?_ ?_ ?_) | (refine ed_eql ?_) | (refine ed_neq ?_) | (refine drawn tysOk mixed (by kernel_rfl) ?_) | fail))); all_goals (try (conv => whnf)))
    exact ⟨μ9 - 1, m + 1, ⟨by omega, by omega, by omega⟩, by omega, by ((repeat (refine ⟨rfl, ?_⟩)); trivial), rfl, rfl, trivial⟩
  have hmk : m = k := by omega
  subst hmk
  ((repeat' ((conv => whnf); (first | (refine Ar.fit (by first | omega | (simp only [lo, hi]; omega)) ?_) | (refine VC.mk (by (first | omega | rfl | assumption | exact Sl.plain (by assumption) (by omega) | (and_intros <;> first | omega | rfl | assumption | (simp only [List.length_set]; omega) | (simp only [List.length_append, List.length_take, List.length_replicate, List.length_cons, List.length_nil]; omega) | (simp only [ByteArray.size_extract, ByteArray.size_append]; omega) | (simp only [List.length_cons, List.length_nil]; omega) | (simp only [Int.toNat_natCast, Int.toNat_one, List.length_take, List.length_cons, List.length_nil] at *; omega)))) ?_) | (refine Br.mk ?_ ?_ <;> intro hb <;> (try (first | (exfalso; omega) | exact absurd rfl hb | exact Bool.noConfusion hb | exact absurd (fun e => Bool.noConfusion e) hb | (exfalso; simp only [List.length_cons, List.length_nil] at hb; omega) | (exfalso; simp only [Int.toNat_natCast, Int.toNat_one, List.length_take, List.length_cons, List.length_nil] at hb; omega)))) | (refine XLoad.of (by assumption) rfl rfl (by omega) (by omega) rfl ?_) | (refine New.mk ?_; intro b hb) | (refine New2.mk ?_; intro b c hb hbc) | (refine NewO.mk ?_; intro b c hb hbc) | (refine SameR.same ?_) | (refine Two.mk ?_ ?_) | (refine Tri.mk ?_ ?_ ?_) | (refine ed_eql ?_) | (refine ed_neq ?_) | (refine drawn tysOk mixed (by kernel_rfl) ?_) | fail))); all_goals (try (conv => whnf)))
  refine CallK.epoch (fun h1 hq => pick_is (hp.self hw hgd) (hL2.grows hq.grows) (by omega) (hC.grows hq.grows) (by omega) (RMs.grows hR hq.grows) (fun a ha => hbz a (hp.mem a ha))) ?_
  rintro h3 u h4 hq3 ⟨⟨C', d', e', R', rfl, hn⟩, hg3⟩
  have g4 := hq3.grows.trans hg3
  obtain ⟨hC', hR'⟩ := hn.sl
  clear hn
  have hC4 := hC.grows g4
  have hR4 := RMs.grows hR g4
  ((repeat' ((conv => whnf); (first | (refine Ar.fit (by first | omega | (simp only [lo, hi]; omega)) ?_) | (refine VC.mk (by (first | omega | rfl | assumption | exact Sl.plain (by assumption) (by omega) | (and_intros <;> first | omega | rfl | assumption | (simp only [List.length_set]; omega) | (simp only [List.length_append, List.length_take, List.length_replicate, List.length_cons, List.length_nil]; omega) | (simp only [ByteArray.size_extract, ByteArray.size_append]; omega) | (simp only [List.length_cons, List.length_nil]; omega) | (simp only [Int.toNat_natCast, Int.toNat_one, List.length_take, List.length_cons, List.length_nil] at *; omega)))) ?_) | (refine Br.mk ?_ ?_ <;> intro hb <;> (try (first | (exfalso; omega) | exact absurd rfl hb | exact Bool.noConfusion hb | exact absurd (fun e => Bool.noConfusion e) hb | (exfalso; simp only [List.length_cons, List.length_nil] at hb; omega) | (exfalso; simp only [Int.toNat_natCast, Int.toNat_one, List.length_take, List.length_cons, List.length_nil] at hb; omega)))) | (refine XLoad.of (by assumption) rfl rfl (by omega) (by omega) rfl ?_) | (refine New.mk ?_; intro b hb) | (refine New2.mk ?_; intro b c hb hbc) | (refine NewO.mk ?_; intro b c hb hbc) | (refine SameR.same ?_) | (refine Two.mk ?_ ?_) | (refine Tri.mk ?_ ?_ ?_) | (refine ed_eql ?_) | (refine ed_neq ?_) | (refine drawn tysOk mixed (by kernel_rfl) ?_) | (apply CallK.pure; (case hh => (intro h1 hs; exact fixed_any h1))) | (apply CallK.pure; (case hh => (intro h1 hs; exact (same_any _ _ _ _ _ _ _ _ _ _ _ (hC4.grows hs.grows) (hC'.grows hs.grows) (RMs.grows hR4 hs.grows) (RMs.grows hR' hs.grows)).mono (fun v h' ⟨e1, e2⟩ => ⟨e1.trans (prop_true rfl), e2⟩)))) | fail))); all_goals (try (conv => whnf)))
  exact ⟨fun h' hs => ⟨prop_true rfl, (g2.trans g4).trans hs.grows⟩⟩
end Go.Ex
