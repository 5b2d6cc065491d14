/-
  Pick: the law PickOrder, walked.
-/
import Derived.Test.YtinelelkjbdaiaaPkW
namespace Go.Ex
open Go.Proofs
set_option linter.unusedVariables false
set_option linter.unusedSimpArgs false
attribute [local irreducible] CallsH

def Diff (a b : Am) : Prop := ¬ (a.part = b.part ∧ a.rule = b.rule)
theorem diff_at {X : List Am} (h : X.Pairwise Diff) {i j : Int} (i0 : 0 ≤ i) (i1 : i < X.length) (j0 : 0 ≤ j) (j1 : j < i) : ¬ ((amAt X j).part = (amAt X i).part ∧ (amAt X j).rule = (amAt X i).rule) := by
  have := List.pairwise_iff_getElem.1 h j.toNat i.toNat (by omega) (by omega) (by omega)
  have e1 : amAt X j = X[j.toNat]'(by omega) := by simp only [amAt, getI, List.getD]; rw [List.getElem?_eq_getElem (by omega)]; rfl
  have e2 : amAt X i = X[i.toNat]'(by omega) := by simp only [amAt, getI, List.getD]; rw [List.getElem?_eq_getElem (by omega)]; rfl
  rw [e1, e2]
  exact this
theorem Picks.perm {L : List Pt} {X X' : List Am} (hm : ∀ a, a ∈ X' ↔ a ∈ X) (hd : X'.Pairwise Diff) {f : Int} {R : List Am} (h : Picks L X f R) : Picks L X' f R := by
  induction h with
  | done f h =>
    refine .done f fun i i0 i1 => ?_
    obtain ⟨j, j0, j1, e⟩ := mem_amAt ((hm _).1 (amAt_mem i0 i1))
    have := h j j0 j1
    rw [e] at this
    exact this
  | step f i R h0 h1 hf hl hr ih =>
    obtain ⟨i', g0, g1, e⟩ := mem_amAt ((hm _).2 (amAt_mem h0 h1))
    rw [← e]
    refine .step f i' R g0 g1 (by rw [e]; exact hf) (fun j' j0 j1 jf hlt => ?_) (by rw [e]; exact ih)
    obtain ⟨j, k0, k1, e2⟩ := mem_amAt ((hm _).1 (amAt_mem j0 j1))
    have hn := hl j k0 k1 (by rw [e2]; exact jf)
    simp only [LtX] at hn hlt
    rw [e] at hlt
    rw [e2] at hn
    have := diff_at hd (i := i') (j := j') g0 g1 j0 (by omega)
    rw [e] at this
    omega
theorem Res.perm {L : List Pt} {X X' : List Am} (hp : X'.Perm X) (hd : X.Pairwise Diff) {e : Int} {R : List Am} (h : Res L X e R) : Res L X' e R := by
  have hm : ∀ a, a ∈ X' ↔ a ∈ X := fun a => hp.mem_iff
  have hd' : X'.Pairwise Diff := (List.Perm.pairwise_iff (fun {x y} (h : Diff x y) => (fun hh => h ⟨hh.1.symm, hh.2.symm⟩ : Diff y x)) hp).2 hd
  rcases h with h | ⟨a1, ⟨a, ha, hb⟩, a3, a4⟩ | ⟨a1, a2, a3, a4⟩
  · exact .inl h
  · exact .inr (.inl ⟨a1, ⟨a, (hm a).2 ha, hb⟩, a3, a4⟩)
  · exact .inr (.inr ⟨a1, fun a ha => a2 a ((hm a).1 ha), a3, a4.perm hm hd'⟩)
/-- a loop, by what slots and memory say -/
theorem loop_gen {P : Program} {ty : Nat → Option TyI} {rep : Nat → Option RepS} {n m : Nat} {ex cu : List Nat} {S : St} {K : Kn} {X : Esc} {κ : Kt} (hty : TysOk P ty) {c : Code} {α : Type} (cs : List Nat) (l : α → Kn) (st : α → St) (φ : Nat → α → Prop)
    (h : dropK cs K [] fun K0 => (∀ h, HS S h → ∃ μ x, φ μ x ∧ HasD K (l x ++ K0) ∧ HS (st x) h) ∧ ∀ μ x, φ μ x →
      codeK P ty rep n m ex cu c X (fun K' S' => ∀ h, HS S' h → ∃ μ' x', φ μ' x' ∧ μ' < μ ∧ HasD K' (l x' ++ K0) ∧ HS (st x') h) (l x ++ K0) (st x)) :
    Leaf P n ty rep m ex cu (.loop c) X κ K S := ⟨fun w0 a w ha he hs => by
  obtain ⟨K0, h1, h4⟩ := drop_sound h
  obtain ⟨μ0, x0, h3, h5, h6⟩ := h1 _ hs
  refine wp_loop_ghost (fun μ a w => ∃ x, φ μ x ∧ Good n a (l x ++ K0) ∧ SameEnv w0 w ∧ HS (st x) w.heap) μ0 ⟨x0, h3, ha.like h5.get, he, h6⟩ ?_
  rintro μ a w ⟨x, hx, ha, he, hs⟩
  have := codeK_sound hty c X _ _ _ (h4 μ x hx) w0 a w ha he hs
  refine Code.wp_mono ?_ this
  intro e a w hq
  cases e with
  | normal =>
    obtain ⟨K', S', a1, a2, a3, hq⟩ := hq
    obtain ⟨μ', x', b1, b2, b3, b4⟩ := hq _ a3
    exact ⟨μ', b2, x', b1, a1.like b3.get, a2, b4⟩
  | exit i => exact hq
  | ret => exact hq
  | panic ch => exact hq
  | goto l => exact hq
  | outgrown => exact hq⟩
structure OS where
  b : Nat
  c : Nat
  ML : List Mt
  XL : List Am
  o : Option (Nat × Nat)
  m : Int
  MO : List Mt
  XO : List Am
  i : Int
structure OInv (X : List Am) (h : Heap) (x : OS) : Prop where
  i0 : 0 ≤ x.i
  sum : x.i + x.XL.length = X.length
  cap : x.ML.length ≤ x.c
  readsL : All2 (RM h) x.ML x.XL
  m : x.m = x.MO.length
  sumO : x.m ≤ x.i
  nil : x.o = none → x.MO = []
  capO : ∀ b c, x.o = some (b, c) → x.MO.length ≤ c
  readsO : All2 (RM h) x.MO x.XO
  perm : (x.XO ++ x.XL).Perm X
theorem All2.take {α β : Type} {P : α → β → Prop} : ∀ (q : Nat) {l : List α} {m : List β}, All2 P l m → All2 P (l.take q) (m.take q)
  | 0, _, _, _ => trivial
  | q + 1, [], [], _ => trivial
  | q + 1, _ :: _, _ :: _, h => ⟨h.1, All2.take q h.2⟩
theorem All2.drop {α β : Type} {P : α → β → Prop} : ∀ (q : Nat) {l : List α} {m : List β}, All2 P l m → All2 P (l.drop q) (m.drop q)
  | 0, _, _, h => h
  | q + 1, [], [], _ => trivial
  | q + 1, _ :: _, _ :: _, h => All2.drop q h.2
theorem cut_eq (ML : List Mt) (q : Int) (h0 : 0 ≤ q) (h1 : q < ML.length) : List.take (((0 : Nat) : Int) + ((List.take q.toNat ML).length : Int)).toNat (List.take ((0 : Nat) : Int).toNat [] ++ List.take q.toNat ML) ++ List.take ((ML.length : Int) - (q + 1)).toNat (List.drop (q + 1).toNat ML) = List.take q.toNat ML ++ List.drop (q.toNat + 1) ML := by
  congr 1
  · rw [Int.toNat_natCast, List.take_zero, List.nil_append]
    exact List.take_of_length_le (by omega)
  · rw [show (q + 1).toNat = q.toNat + 1 by omega]
    exact List.take_of_length_le (by rw [List.length_drop]; omega)
theorem osl_den {k k' b c : Nat} {n n' : Int} (h : n = n') : den (.osl k b n c) = den (.osl k' b n' c) := by subst h; rfl
theorem OInv.step {X : List Am} {h : Heap} {ob oc b' c' : Nat} {ML : List Mt} {XL : List Am} {o : Option (Nat × Nat)} {mo : Int} {MO : List Mt} {XO : List Am} {i q : Int} {b2 c2 : Nat} (d : OInv X h ⟨ob, oc, ML, XL, o, mo, MO, XO, i⟩) (q0 : 0 ≤ q) (q1 : q < ML.length)
    (hc : ML.length ≤ c' + 1) (hc2 : MO.length + 1 ≤ c2) : OInv X h ⟨b', c', List.take q.toNat ML ++ List.drop (q.toNat + 1) ML, List.take q.toNat XL ++ List.drop (q.toNat + 1) XL, some (b2, c2), mo + 1, MO ++ [getI matR.dflt ML q], XO ++ [amAt XL q], i + 1⟩ := by
  obtain ⟨p1, p2, p3, p4, p5, p6, p7, p8, p9, p10⟩ := d
  have hl := p4.len
  dsimp only at p1 p2 p3 p4 p5 p6 p7 p8 p9 p10 hl
  refine ⟨by dsimp only; omega, ?_, ?_, (p4.take _).append (p4.drop _), ?_, by dsimp only; omega, fun e => (by cases e), fun b c e => (by cases e; dsimp only; rw [List.length_append]; exact hc2), p9.append ⟨p4.get _ _ q q0 q1, trivial⟩, ?_⟩
  · simp only [List.length_append, List.length_take, List.length_drop]; omega
  · simp only [List.length_append, List.length_take, List.length_drop]; omega
  · simp only [List.length_append, List.length_singleton]; omega
  · dsimp only
    have e : XL = List.take q.toNat XL ++ amAt XL q :: List.drop (q.toNat + 1) XL := by
      have hq : q.toNat < XL.length := by omega
      conv => lhs; rw [← List.take_append_drop q.toNat XL, List.drop_eq_getElem_cons hq]
      simp only [amAt, getI, List.getD]
      rw [List.getElem?_eq_getElem hq]; rfl
    refine List.Perm.trans ?_ p10
    rw [List.append_assoc]
    refine List.Perm.append_left XO ?_
    conv => rhs; rw [e]
    rw [List.singleton_append]
    exact List.perm_middle.symm
set_option maxHeartbeats 2000000 in
set_option maxRecDepth 10000 in
theorem order_law (A : Option Addr) (n c : Nat) (L : List Pt) (B : Option Addr) (k c2 : Nat) (M : List Mt) (X : List Am) (D : Option Addr) (kk c3 : Nat) (U : List Int) (h : Heap) (hL : Sl partR h A n L) (hM : Sl matR h B k M)
    (hX : All2 (RM h) M X) (hbz : ∀ a ∈ X, a.bs.length * 32 ≤ 140737488355328) (hU : Sl (intR .u16) h D kk U) (hUb : ∀ x ∈ U, 0 ≤ x ∧ x < 65536) :
    CallsH Try.prog 5 #[.slice A n c, .slice B k c2, .slice D kk c3] h fun v h' => v = .bool true ∧ Grows h h' := by
  refine enter (rep := rep) (m := 17) (ex := [19, 24, 29, 55, 62, 68]) (cu := []) tysOk Try.func5 rfl (by decide) (rs := [.tmp 6]) rfl rfl [.val (.slice A n c), .val (.slice B k c2), .val (.slice D kk c3)] rfl ?_
  have hlen := hL.len_eq
  have hmlen := hM.len_eq
  have hXl := hX.len
  by_cases hgr : 300 < n ∨ 300 < k
  · ((repeat' ((conv => whnf); (first | (refine Ar.fit (by first | omega | (simp only [lo, hi]; omega)) ?_) | (refine VC.mk (by (first | omega | rfl | assumption | exact Sl.plain (by assumption) (by omega) | (and_intros <;> first | omega | rfl | assumption | (simp only [List.length_set]; omega) | (simp only [List.length_append, List.length_take, List.length_replicate, List.length_cons, List.length_nil]; omega) | (simp only [ByteArray.size_extract, ByteArray.size_append]; omega) | (simp only [List.length_cons, List.length_nil]; omega) | (simp only [Int.toNat_natCast, Int.toNat_one, List.length_take, List.length_cons, List.length_nil] at *; omega)))) ?_) | (refine Br.mk ?_ ?_ <;> intro hb <;> (try (first | (exfalso; omega) | exact absurd rfl hb | exact Bool.noConfusion hb | exact absurd (fun e => Bool.noConfusion e) hb | (exfalso; simp only [List.length_cons, List.length_nil] at hb; omega) | (exfalso; simp only [Int.toNat_natCast, Int.toNat_one, List.length_take, List.length_cons, List.length_nil] at hb; omega)))) | (refine XLoad.of (by assumption) rfl rfl (by omega) (by omega) rfl ?_) | (refine New.mk ?_; intro b hb) | (refine New2.mk ?_; intro b c hb hbc) | (refine NewO.mk ?_; intro b c hb hbc) | (refine SameR.same ?_) | (refine Two.mk ?_ ?_) | (refine Tri.mk ?_ ?_ ?_) | (refine ed_eql ?_) | (refine ed_neq ?_) | (refine drawn tysOk mixed (by kernel_rfl) ?_) | (apply CallK.pure; (case hh => (intro h1 hs; exact (great_any _ _ _ _ _ _ h1).mono (fun v h' ⟨e1, e2⟩ => ⟨e1.trans (prop_true hgr), e2⟩)))) | (apply CallK.pure; (case hh => (intro h1 hs; exact fixed_any h1))) | fail))); all_goals (try (conv => whnf)))
    exact ⟨fun h' hs => ⟨prop_true rfl, hs.grows⟩⟩
  ((repeat' ((conv => whnf); (first | (refine Ar.fit (by first | omega | (simp only [lo, hi]; omega)) ?_) | (refine VC.mk (by (first | omega | rfl | assumption | exact Sl.plain (by assumption) (by omega) | (and_intros <;> first | omega | rfl | assumption | (simp only [List.length_set]; omega) | (simp only [List.length_append, List.length_take, List.length_replicate, List.length_cons, List.length_nil]; omega) | (simp only [ByteArray.size_extract, ByteArray.size_append]; omega) | (simp only [List.length_cons, List.length_nil]; omega) | (simp only [Int.toNat_natCast, Int.toNat_one, List.length_take, List.length_cons, List.length_nil] at *; omega)))) ?_) | (refine Br.mk ?_ ?_ <;> intro hb <;> (try (first | (exfalso; omega) | exact absurd rfl hb | exact Bool.noConfusion hb | exact absurd (fun e => Bool.noConfusion e) hb | (exfalso; simp only [List.length_cons, List.length_nil] at hb; omega) | (exfalso; simp only [Int.toNat_natCast, Int.toNat_one, List.length_take, List.length_cons, List.length_nil] at hb; omega)))) | (refine XLoad.of (by assumption) rfl rfl (by omega) (by omega) rfl ?_) | (refine New.mk ?_; intro b hb) | (refine New2.mk ?_; intro b c hb hbc) | (refine NewO.mk ?_; intro b c hb hbc) | (refine SameR.same ?_) | (refine Two.mk ?_ ?_) | (refine Tri.mk ?_ ?_ ?_) | (refine ed_eql ?_) | (refine ed_neq ?_) | (refine drawn tysOk mixed (by kernel_rfl) ?_) | (apply CallK.pure; (case hh => (intro h1 hs; exact (great_any _ _ _ _ _ _ h1).mono (fun v h' ⟨e1, e2⟩ => ⟨e1.trans (prop_false hgr), e2⟩)))) | fail))); all_goals (try (conv => whnf)))
  refine loop_rule tysOk [7] (fun i : Int => [(7, .val (.int .i64 i))]) (fun _ => []) (fun μ i => 0 ≤ i ∧ i ≤ k ∧ (∀ a b : Int, 0 ≤ b → b < a → a < i → Diff (amAt X b) (amAt X a)) ∧ μ = (k - i).toNat) k 0 ?_
  conv => whnf
  refine ⟨by ((repeat (refine ⟨rfl, ?_⟩)); trivial), trivial, ⟨by omega, by omega, fun a b b0 ba ai => by omega, by omega⟩, ?_⟩
  rintro μ7 i ⟨i1, i2, i3, i4⟩
  dsimp only
  by_cases hi : i < k
  · have hx := hX.get matR.dflt ⟨0, 0, []⟩ i i1 (by omega)
    have hxr : (getI matR.dflt M i).rule = (amAt X i).rule := hx.1
    have hxp : (getI matR.dflt M i).part = (amAt X i).part := hx.2.1
    ((repeat' ((conv => whnf); (first | (refine Ar.fit (by first | omega | (simp only [lo, hi]; omega)) ?_) | (refine VC.mk (by (first | omega | rfl | assumption | exact Sl.plain (by assumption) (by omega) | (and_intros <;> first | omega | rfl | assumption | (simp only [List.length_set]; omega) | (simp only [List.length_append, List.length_take, List.length_replicate, List.length_cons, List.length_nil]; omega) | (simp only [ByteArray.size_extract, ByteArray.size_append]; omega) | (simp only [List.length_cons, List.length_nil]; omega) | (simp only [Int.toNat_natCast, Int.toNat_one, List.length_take, List.length_cons, List.length_nil] at *; omega)))) ?_) | (refine Br.mk ?_ ?_ <;> intro hb <;> (try (first | (exfalso; omega) | exact absurd rfl hb | exact Bool.noConfusion hb | exact absurd (fun e => Bool.noConfusion e) hb | (exfalso; simp only [List.length_cons, List.length_nil] at hb; omega) | (exfalso; simp only [Int.toNat_natCast, Int.toNat_one, List.length_take, List.length_cons, List.length_nil] at hb; omega)))) | (refine XLoad.of (by assumption) rfl rfl (by omega) (by omega) rfl ?_) | (refine New.mk ?_; intro b hb) | (refine New2.mk ?_; intro b c hb hbc) | (refine NewO.mk ?_; intro b c hb hbc) | (refine SameR.same ?_) | (refine Two.mk ?_ ?_) | (refine Tri.mk ?_ ?_ ?_) | (refine ed_eql ?_) | (refine ed_neq ?_) | (refine drawn tysOk mixed (by kernel_rfl) ?_) | fail))); all_goals (try (conv => whnf)))
    refine loop_rule tysOk [8] (fun j : Int => [(8, .val (.int .i64 j))]) (fun _ => []) (fun μ j => 0 ≤ j ∧ j ≤ i ∧ (∀ b : Int, 0 ≤ b → b < j → Diff (amAt X b) (amAt X i)) ∧ μ = (i - j).toNat) i.toNat 0 ?_
    conv => whnf
    refine ⟨by ((repeat (refine ⟨rfl, ?_⟩)); trivial), trivial, ⟨by omega, by omega, fun b b0 ba => by omega, by omega⟩, ?_⟩
    rintro μ8 j ⟨j1, j2, j3, j4⟩
    dsimp only
    by_cases hj : j < i
    · have hy := hX.get matR.dflt ⟨0, 0, []⟩ j j1 (by omega)
      have hyr : (getI matR.dflt M j).rule = (amAt X j).rule := hy.1
      have hyp : (getI matR.dflt M j).part = (amAt X j).part := hy.2.1
      by_cases hd : (getI matR.dflt M i).part = (getI matR.dflt M j).part ∧ (getI matR.dflt M i).rule = (getI matR.dflt M j).rule
      · ((repeat' ((conv => whnf); (first | (refine Ar.fit (by first | omega | (simp only [lo, hi]; omega)) ?_) | (refine VC.mk (by (first | omega | rfl | assumption | exact Sl.plain (by assumption) (by omega) | (and_intros <;> first | omega | rfl | assumption | (simp only [List.length_set]; omega) | (simp only [List.length_append, List.length_take, List.length_replicate, List.length_cons, List.length_nil]; omega) | (simp only [ByteArray.size_extract, ByteArray.size_append]; omega) | (simp only [List.length_cons, List.length_nil]; omega) | (simp only [Int.toNat_natCast, Int.toNat_one, List.length_take, List.length_cons, List.length_nil] at *; omega)))) ?_) | (refine Br.mk ?_ ?_ <;> intro hb <;> (try (first | (exfalso; omega) | exact absurd rfl hb | exact Bool.noConfusion hb | exact absurd (fun e => Bool.noConfusion e) hb | (exfalso; simp only [List.length_cons, List.length_nil] at hb; omega) | (exfalso; simp only [Int.toNat_natCast, Int.toNat_one, List.length_take, List.length_cons, List.length_nil] at hb; omega)))) | (refine XLoad.of (by assumption) rfl rfl (by omega) (by omega) rfl ?_) | (refine New.mk ?_; intro b hb) | (refine New2.mk ?_; intro b c hb hbc) | (refine NewO.mk ?_; intro b c hb hbc) | (refine SameR.same ?_) | (refine Two.mk ?_ ?_) | (refine Tri.mk ?_ ?_ ?_) | (refine ed_eql ?_) | (refine ed_neq ?_) | (refine drawn tysOk mixed (by kernel_rfl) ?_) | (apply CallK.pure; (case hh => (intro h1 hs; exact fixed_any h1))) | fail))); all_goals (try (conv => whnf)))
        exact ⟨fun h' hs => ⟨prop_true rfl, hs.grows⟩⟩
      · have hd' : Diff (amAt X j) (amAt X i) := fun e => hd ⟨by rw [hxp, hyp]; exact e.1.symm, by rw [hxr, hyr]; exact e.2.symm⟩
        ((repeat' ((conv => whnf); (first | (refine Ar.fit (by first | omega | (simp only [lo, hi]; omega)) ?_) | (refine VC.mk (by (first | omega | rfl | assumption | exact Sl.plain (by assumption) (by omega) | (and_intros <;> first | omega | rfl | assumption | (simp only [List.length_set]; omega) | (simp only [List.length_append, List.length_take, List.length_replicate, List.length_cons, List.length_nil]; omega) | (simp only [ByteArray.size_extract, ByteArray.size_append]; omega) | (simp only [List.length_cons, List.length_nil]; omega) | (simp only [Int.toNat_natCast, Int.toNat_one, List.length_take, List.length_cons, List.length_nil] at *; omega)))) ?_) | (refine Br.mk ?_ ?_ <;> intro hb <;> (try (first | (exfalso; omega) | exact absurd rfl hb | exact Bool.noConfusion hb | exact absurd (fun e => Bool.noConfusion e) hb | (exfalso; simp only [List.length_cons, List.length_nil] at hb; omega) | (exfalso; simp only [Int.toNat_natCast, Int.toNat_one, List.length_take, List.length_cons, List.length_nil] at hb; omega)))) | (refine XLoad.of (by assumption) rfl rfl (by omega) (by omega) rfl ?_) | (refine New.mk ?_; intro b hb) | (refine New2.mk ?_; intro b c hb hbc) | (refine NewO.mk ?_; intro b c hb hbc) | (refine SameR.same ?_) | (refine Two.mk ?_ ?_) | (refine Tri.mk ?_ ?_ ?_) | (refine ed_eql ?_) | (refine ed_neq ?_) | (refine drawn tysOk mixed (by kernel_rfl) ?_) | (apply CallK.pure; (case hh => (intro h1 hs; exact fixed_any h1))) | fail))); all_goals (try (conv => whnf)))
        all_goals
          refine ⟨μ8 - 1, j + 1, ⟨by omega, by omega, fun b b0 bj => ?_, by omega⟩, by omega, by ((repeat (refine ⟨rfl, ?_⟩)); trivial), rfl, rfl, trivial⟩
          by_cases e : b = j
          · subst e; exact hd'
          · exact j3 b b0 (by omega)
    have hji : j = i := by omega
    subst hji
    ((repeat' ((conv => whnf); (first | (refine Ar.fit (by first | omega | (simp only [lo, hi]; omega)) ?_) | (refine VC.mk (by (first | omega | rfl | assumption | exact Sl.plain (by assumption) (by omega) | (and_intros <;> first | omega | rfl | assumption | (simp only [List.length_set]; omega) | (simp only [List.length_append, List.length_take, List.length_replicate, List.length_cons, List.length_nil]; omega) | (simp only [ByteArray.size_extract, ByteArray.size_append]; omega) | (simp only [List.length_cons, List.length_nil]; omega) | (simp only [Int.toNat_natCast, Int.toNat_one, List.length_take, List.length_cons, List.length_nil] at *; omega)))) ?_) | (refine Br.mk ?_ ?_ <;> intro hb <;> (try (first | (exfalso; omega) | exact absurd rfl hb | exact Bool.noConfusion hb | exact absurd (fun e => Bool.noConfusion e) hb | (exfalso; simp only [List.length_cons, List.length_nil] at hb; omega) | (exfalso; simp only [Int.toNat_natCast, Int.toNat_one, List.length_take, List.length_cons, List.length_nil] at hb; omega)))) | (refine XLoad.of (by assumption) rfl rfl (by omega) (by omega) rfl ?_) | (refine New.mk ?_; intro b hb) | (refine New2.mk ?_; intro b c hb hbc) | (refine NewO.mk ?_; intro b c hb hbc) | (refine SameR.same ?_) | (refine Two.mk ?_ ?_) | (refine Tri.mk ?_ ?_ ?_) | (refine ed_eql ?_) | (refine ed_neq ?_) | (refine drawn tysOk mixed (by kernel_rfl) ?_) | fail))); all_goals (try (conv => whnf)))
    refine ⟨μ7 - 1, j + 1, ⟨by omega, by omega, fun a b b0 ba ai => ?_, by omega⟩, by omega, by ((repeat (refine ⟨rfl, ?_⟩)); trivial), rfl, rfl, trivial⟩
    by_cases e : a = j
    · subst e; exact j3 b b0 ba
    · exact i3 a b b0 ba (by omega)
  have hik : i = k := by omega
  subst hik
  have hd : X.Pairwise Diff := List.pairwise_iff_getElem.2 fun a b ha hb hab => by
    have := i3 b a (by omega) (by omega) (by omega)
    have e1 : amAt X a = X[a] := by simp only [amAt, getI, List.getD, Int.toNat_natCast]; rw [List.getElem?_eq_getElem ha]; rfl
    have e2 : amAt X b = X[b] := by simp only [amAt, getI, List.getD, Int.toNat_natCast]; rw [List.getElem?_eq_getElem hb]; rfl
    rwa [e1, e2] at this
  ((repeat' ((conv => whnf); (first | (refine Ar.fit (by first | omega | (simp only [lo, hi]; omega)) ?_) | (refine VC.mk (by (first | omega | rfl | assumption | exact Sl.plain (by assumption) (by omega) | (and_intros <;> first | omega | rfl | assumption | (simp only [List.length_set]; omega) | (simp only [List.length_append, List.length_take, List.length_replicate, List.length_cons, List.length_nil]; omega) | (simp only [ByteArray.size_extract, ByteArray.size_append]; omega) | (simp only [List.length_cons, List.length_nil]; omega) | (simp only [Int.toNat_natCast, Int.toNat_one, List.length_take, List.length_cons, List.length_nil] at *; omega)))) ?_) | (refine Br.mk ?_ ?_ <;> intro hb <;> (try (first | (exfalso; omega) | exact absurd rfl hb | exact Bool.noConfusion hb | exact absurd (fun e => Bool.noConfusion e) hb | (exfalso; simp only [List.length_cons, List.length_nil] at hb; omega) | (exfalso; simp only [Int.toNat_natCast, Int.toNat_one, List.length_take, List.length_cons, List.length_nil] at hb; omega)))) | (refine XLoad.of (by assumption) rfl rfl (by omega) (by omega) rfl ?_) | (refine New.mk ?_; intro b hb) | (refine New2.mk ?_; intro b c hb hbc) | (refine NewO.mk ?_; intro b c hb hbc) | (refine SameR.same ?_) | (refine Two.mk ?_ ?_) | (refine Tri.mk ?_ ?_ ?_) | (refine ed_eql ?_) | (refine ed_neq ?_) | (refine drawn tysOk mixed (by kernel_rfl) ?_) | (refine XList.of hM rfl ?_) | fail))); all_goals (try (conv => whnf)))
  refine loop_gen tysOk [9, 10, 11] (fun x : OS => [(9, .osl 93 x.b x.ML.length x.c), (10, moKi 83 x.o x.m), (11, .val (.int .i64 x.i))]) (fun x => ⟨h, [], (93, x.b, .arr 33 matR x.ML x.c) :: moC 83 x.o x.MO⟩) (fun μ x => OInv X h x ∧ μ = x.XL.length) ?_
  conv => whnf
  refine ⟨fun h1 hs1 => ?_, ?_⟩
  · refine ⟨X.length, ⟨b, _, M, X, none, 0, [], [], 0⟩, ⟨⟨by simp, by simp, by simpa using hbc, hX, rfl, by simp, fun _ => rfl, by simp, trivial, List.Perm.refl _⟩, rfl⟩, by ((repeat (refine ⟨⟨_, rfl, (by first | rfl | simp [den, den1, denC])⟩, ?_⟩)); trivial), hs1.ren [59] ⟨⟨_, rfl, SameCh.arr (by simp)⟩, rfl, trivial⟩⟩
  rintro μ9 ⟨ob, oc, ML, XL, o, mo, MO, XO, i⟩ ⟨d9, hμ⟩
  have d9' := d9
  obtain ⟨p1, p2, p3, p4, p5, p6, p7, p8, p9, p10⟩ := d9'
  have hMl := p4.len
  have hOl := p9.len
  dsimp only at p1 p2 p3 p4 p5 p6 p7 p8 p9 p10 hμ hMl hOl ⊢
  by_cases hne : 0 < XL.length
  · by_cases hik : i < kk
    · have hub : 0 ≤ getI (intR .u16).dflt U i ∧ getI (intR .u16).dflt U i < 65536 := by
        have hul := hU.len_eq
        have : getI (intR .u16).dflt U i ∈ U := by
          simp only [getI, List.getD]
          rw [List.getElem?_eq_getElem (by omega)]
          exact List.getElem_mem _
        exact hUb _ this
      have hk0 := Int.emod_nonneg (getI (intR .u16).dflt U i) (show (ML.length : Int) ≠ 0 by omega)
      have hk1 := Int.emod_lt_of_pos (getI (intR .u16).dflt U i) (show (0 : Int) < ML.length by omega)
      rcases o with _ | ⟨bo, co⟩
      · have hMO := p7 rfl
        subst hMO
        dsimp only [moKi, moC]
        ((repeat' ((conv => whnf); (first | (refine Ar.fit (by first | omega | (simp only [lo, hi]; omega)) ?_) | (refine VC.mk (by (first | omega | rfl | assumption | exact Sl.plain (by assumption) (by omega) | (and_intros <;> first | omega | rfl | assumption | (simp only [List.length_set]; omega) | (simp only [List.length_append, List.length_take, List.length_replicate, List.length_cons, List.length_nil]; omega) | (simp only [ByteArray.size_extract, ByteArray.size_append]; omega) | (simp only [List.length_cons, List.length_nil]; omega) | (simp only [Int.toNat_natCast, Int.toNat_one, List.length_take, List.length_cons, List.length_nil] at *; omega)))) ?_) | (refine Br.mk ?_ ?_ <;> intro hb <;> (try (first | (exfalso; omega) | exact absurd rfl hb | exact Bool.noConfusion hb | exact absurd (fun e => Bool.noConfusion e) hb | (exfalso; simp only [List.length_cons, List.length_nil] at hb; omega) | (exfalso; simp only [Int.toNat_natCast, Int.toNat_one, List.length_take, List.length_cons, List.length_nil] at hb; omega)))) | (refine XLoad.of (by assumption) rfl rfl (by omega) (by omega) rfl ?_) | (refine New.mk ?_; intro b hb) | (refine New2.mk ?_; intro b c hb hbc) | (refine NewO.mk ?_; intro b c hb hbc) | (refine SameR.same ?_) | (refine Two.mk ?_ ?_) | (refine Tri.mk ?_ ?_ ?_) | (refine ed_eql ?_) | (refine ed_neq ?_) | fail))); all_goals (try (conv => whnf)))
        all_goals ((refine drawnW tysOk mixed (.pull 1 [3, 4, 9, 10] (.pull 2 [3, 4, 9, 10] (.pull 3 [4, 9, 10] (.pull 5 [8, 9, 10] (.pull 6 [7, 8, 9, 10] (.pull 7 [8, 9, 10] (.pull 8 [9, 10] (.one 0 (.one 4 (.one 9 (.pull 10 [] .done))))))))))) (by kernel_rfl) (by kernel_rfl) ?_))
        ((repeat' ((conv => whnf); (first | (refine Ar.fit (by first | omega | (simp only [lo, hi]; omega)) ?_) | (refine VC.mk (by (first | omega | rfl | assumption | exact Sl.plain (by assumption) (by omega) | (and_intros <;> first | omega | rfl | assumption | (simp only [List.length_set]; omega) | (simp only [List.length_append, List.length_take, List.length_replicate, List.length_cons, List.length_nil]; omega) | (simp only [ByteArray.size_extract, ByteArray.size_append]; omega) | (simp only [List.length_cons, List.length_nil]; omega) | (simp only [Int.toNat_natCast, Int.toNat_one, List.length_take, List.length_cons, List.length_nil] at *; omega)))) ?_) | (refine Br.mk ?_ ?_ <;> intro hb <;> (try (first | (exfalso; omega) | exact absurd rfl hb | exact Bool.noConfusion hb | exact absurd (fun e => Bool.noConfusion e) hb | (exfalso; simp only [List.length_cons, List.length_nil] at hb; omega) | (exfalso; simp only [Int.toNat_natCast, Int.toNat_one, List.length_take, List.length_cons, List.length_nil] at hb; omega)))) | (refine XLoad.of (by assumption) rfl rfl (by omega) (by omega) rfl ?_) | (refine New.mk ?_; intro b hb) | (refine New2.mk ?_; intro b c hb hbc) | (refine NewO.mk ?_; intro b c hb hbc) | (refine SameR.same ?_) | (refine Two.mk ?_ ?_) | (refine Tri.mk ?_ ?_ ?_) | (refine ed_eql ?_) | (refine ed_neq ?_) | fail))); all_goals (try (conv => whnf)))
        intro hf hsf
        refine ⟨_, ⟨_, _, List.take (getI (intR .u16).dflt U i % ML.length).toNat ML ++ List.drop ((getI (intR .u16).dflt U i % ML.length).toNat + 1) ML, List.take (getI (intR .u16).dflt U i % ML.length).toNat XL ++ List.drop ((getI (intR .u16).dflt U i % ML.length).toNat + 1) XL, some (_, _), mo + 1, [] ++ [getI matR.dflt ML (getI (intR .u16).dflt U i % ML.length)], XO ++ [amAt XL (getI (intR .u16).dflt U i % ML.length)], i + 1⟩, ⟨OInv.step d9 hk0 hk1 (by (simp only [Int.toNat_natCast, Int.toNat_one, List.length_append, List.length_take, List.length_drop, List.length_cons, List.length_nil] at *; omega)) (by (simp only [Int.toNat_natCast, Int.toNat_one, List.length_append, List.length_take, List.length_drop, List.length_cons, List.length_nil] at *; omega)), rfl⟩, by (simp only [Int.toNat_natCast, Int.toNat_one, List.length_append, List.length_take, List.length_drop, List.length_cons, List.length_nil] at *; omega), by ((repeat (refine ⟨⟨_, rfl, (by first | rfl | exact osl_den (by (simp only [Int.toNat_natCast, Int.toNat_one, List.length_append, List.length_take, List.length_drop, List.length_cons, List.length_nil] at *; omega)))⟩, ?_⟩)); trivial), hsf.ren [93, 83] ⟨⟨_, rfl, SameCh.arr (cut_eq ML _ hk0 hk1)⟩, rfl, ⟨_, rfl, SameCh.arr (by simp [p5])⟩, rfl, trivial⟩⟩
      · have hco := p8 bo co rfl
        dsimp only [moKi, moC]
        ((repeat' ((conv => whnf); (first | (refine Ar.fit (by first | omega | (simp only [lo, hi]; omega)) ?_) | (refine VC.mk (by (first | omega | rfl | assumption | exact Sl.plain (by assumption) (by omega) | (and_intros <;> first | omega | rfl | assumption | (simp only [List.length_set]; omega) | (simp only [List.length_append, List.length_take, List.length_replicate, List.length_cons, List.length_nil]; omega) | (simp only [ByteArray.size_extract, ByteArray.size_append]; omega) | (simp only [List.length_cons, List.length_nil]; omega) | (simp only [Int.toNat_natCast, Int.toNat_one, List.length_take, List.length_cons, List.length_nil] at *; omega)))) ?_) | (refine Br.mk ?_ ?_ <;> intro hb <;> (try (first | (exfalso; omega) | exact absurd rfl hb | exact Bool.noConfusion hb | exact absurd (fun e => Bool.noConfusion e) hb | (exfalso; simp only [List.length_cons, List.length_nil] at hb; omega) | (exfalso; simp only [Int.toNat_natCast, Int.toNat_one, List.length_take, List.length_cons, List.length_nil] at hb; omega)))) | (refine XLoad.of (by assumption) rfl rfl (by omega) (by omega) rfl ?_) | (refine New.mk ?_; intro b hb) | (refine New2.mk ?_; intro b c hb hbc) | (refine NewO.mk ?_; intro b c hb hbc) | (refine SameR.same ?_) | (refine Two.mk ?_ ?_) | (refine Tri.mk ?_ ?_ ?_) | (refine ed_eql ?_) | (refine ed_neq ?_) | fail))); all_goals (try (conv => whnf)))
        all_goals ((refine drawnW tysOk mixed (.pull 1 [3, 4, 9, 10] (.pull 2 [3, 4, 9, 10] (.pull 3 [4, 9, 10] (.pull 5 [8, 9, 10] (.pull 6 [7, 8, 9, 10] (.pull 7 [8, 9, 10] (.pull 8 [9, 10] (.one 0 (.one 4 (.one 9 (.pull 10 [] .done))))))))))) (by kernel_rfl) (by kernel_rfl) ?_))
        ((repeat' ((conv => whnf); (first | (refine Ar.fit (by first | omega | (simp only [lo, hi]; omega)) ?_) | (refine VC.mk (by (first | omega | rfl | assumption | exact Sl.plain (by assumption) (by omega) | (and_intros <;> first | omega | rfl | assumption | (simp only [List.length_set]; omega) | (simp only [List.length_append, List.length_take, List.length_replicate, List.length_cons, List.length_nil]; omega) | (simp only [ByteArray.size_extract, ByteArray.size_append]; omega) | (simp only [List.length_cons, List.length_nil]; omega) | (simp only [Int.toNat_natCast, Int.toNat_one, List.length_take, List.length_cons, List.length_nil] at *; omega)))) ?_) | (refine Br.mk ?_ ?_ <;> intro hb <;> (try (first | (exfalso; omega) | exact absurd rfl hb | exact Bool.noConfusion hb | exact absurd (fun e => Bool.noConfusion e) hb | (exfalso; simp only [List.length_cons, List.length_nil] at hb; omega) | (exfalso; simp only [Int.toNat_natCast, Int.toNat_one, List.length_take, List.length_cons, List.length_nil] at hb; omega)))) | (refine XLoad.of (by assumption) rfl rfl (by omega) (by omega) rfl ?_) | (refine New.mk ?_; intro b hb) | (refine New2.mk ?_; intro b c hb hbc) | (refine NewO.mk ?_; intro b c hb hbc) | (refine SameR.same ?_) | (refine Two.mk ?_ ?_) | (refine Tri.mk ?_ ?_ ?_) | (refine ed_eql ?_) | (refine ed_neq ?_) | fail))); all_goals (try (conv => whnf)))
        intro hf hsf
        refine ⟨_, ⟨_, _, List.take (getI (intR .u16).dflt U i % ML.length).toNat ML ++ List.drop ((getI (intR .u16).dflt U i % ML.length).toNat + 1) ML, List.take (getI (intR .u16).dflt U i % ML.length).toNat XL ++ List.drop ((getI (intR .u16).dflt U i % ML.length).toNat + 1) XL, some (_, _), mo + 1, MO ++ [getI matR.dflt ML (getI (intR .u16).dflt U i % ML.length)], XO ++ [amAt XL (getI (intR .u16).dflt U i % ML.length)], i + 1⟩, ⟨OInv.step d9 hk0 hk1 (by (simp only [Int.toNat_natCast, Int.toNat_one, List.length_append, List.length_take, List.length_drop, List.length_cons, List.length_nil] at *; omega)) (by (simp only [Int.toNat_natCast, Int.toNat_one, List.length_append, List.length_take, List.length_drop, List.length_cons, List.length_nil] at *; omega)), rfl⟩, by (simp only [Int.toNat_natCast, Int.toNat_one, List.length_append, List.length_take, List.length_drop, List.length_cons, List.length_nil] at *; omega), by ((repeat (refine ⟨⟨_, rfl, (by first | rfl | exact osl_den (by (simp only [Int.toNat_natCast, Int.toNat_one, List.length_append, List.length_take, List.length_drop, List.length_cons, List.length_nil] at *; omega)))⟩, ?_⟩)); trivial), hsf.ren [93, 83] ⟨⟨_, rfl, SameCh.arr (cut_eq ML _ hk0 hk1)⟩, rfl, ⟨_, rfl, SameCh.arr (by simp [p5])⟩, rfl, trivial⟩⟩
    · have hk0 : (0 : Int) ≤ 0 := by omega
      have hk1 : (0 : Int) < ML.length := by omega
      rcases o with _ | ⟨bo, co⟩
      · have hMO := p7 rfl
        subst hMO
        dsimp only [moKi, moC]
        ((repeat' ((conv => whnf); (first | (refine Ar.fit (by first | omega | (simp only [lo, hi]; omega)) ?_) | (refine VC.mk (by (first | omega | rfl | assumption | exact Sl.plain (by assumption) (by omega) | (and_intros <;> first | omega | rfl | assumption | (simp only [List.length_set]; omega) | (simp only [List.length_append, List.length_take, List.length_replicate, List.length_cons, List.length_nil]; omega) | (simp only [ByteArray.size_extract, ByteArray.size_append]; omega) | (simp only [List.length_cons, List.length_nil]; omega) | (simp only [Int.toNat_natCast, Int.toNat_one, List.length_take, List.length_cons, List.length_nil] at *; omega)))) ?_) | (refine Br.mk ?_ ?_ <;> intro hb <;> (try (first | (exfalso; omega) | exact absurd rfl hb | exact Bool.noConfusion hb | exact absurd (fun e => Bool.noConfusion e) hb | (exfalso; simp only [List.length_cons, List.length_nil] at hb; omega) | (exfalso; simp only [Int.toNat_natCast, Int.toNat_one, List.length_take, List.length_cons, List.length_nil] at hb; omega)))) | (refine XLoad.of (by assumption) rfl rfl (by omega) (by omega) rfl ?_) | (refine New.mk ?_; intro b hb) | (refine New2.mk ?_; intro b c hb hbc) | (refine NewO.mk ?_; intro b c hb hbc) | (refine SameR.same ?_) | (refine Two.mk ?_ ?_) | (refine Tri.mk ?_ ?_ ?_) | (refine ed_eql ?_) | (refine ed_neq ?_) | fail))); all_goals (try (conv => whnf)))
        all_goals ((refine drawnW tysOk mixed (.pull 1 [3, 4, 9, 10] (.pull 2 [3, 4, 9, 10] (.pull 3 [4, 9, 10] (.pull 5 [8, 9, 10] (.pull 6 [7, 8, 9, 10] (.pull 7 [8, 9, 10] (.pull 8 [9, 10] (.one 0 (.one 4 (.one 9 (.pull 10 [] .done))))))))))) (by kernel_rfl) (by kernel_rfl) ?_))
        ((repeat' ((conv => whnf); (first | (refine Ar.fit (by first | omega | (simp only [lo, hi]; omega)) ?_) | (refine VC.mk (by (first | omega | rfl | assumption | exact Sl.plain (by assumption) (by omega) | (and_intros <;> first | omega | rfl | assumption | (simp only [List.length_set]; omega) | (simp only [List.length_append, List.length_take, List.length_replicate, List.length_cons, List.length_nil]; omega) | (simp only [ByteArray.size_extract, ByteArray.size_append]; omega) | (simp only [List.length_cons, List.length_nil]; omega) | (simp only [Int.toNat_natCast, Int.toNat_one, List.length_take, List.length_cons, List.length_nil] at *; omega)))) ?_) | (refine Br.mk ?_ ?_ <;> intro hb <;> (try (first | (exfalso; omega) | exact absurd rfl hb | exact Bool.noConfusion hb | exact absurd (fun e => Bool.noConfusion e) hb | (exfalso; simp only [List.length_cons, List.length_nil] at hb; omega) | (exfalso; simp only [Int.toNat_natCast, Int.toNat_one, List.length_take, List.length_cons, List.length_nil] at hb; omega)))) | (refine XLoad.of (by assumption) rfl rfl (by omega) (by omega) rfl ?_) | (refine New.mk ?_; intro b hb) | (refine New2.mk ?_; intro b c hb hbc) | (refine NewO.mk ?_; intro b c hb hbc) | (refine SameR.same ?_) | (refine Two.mk ?_ ?_) | (refine Tri.mk ?_ ?_ ?_) | (refine ed_eql ?_) | (refine ed_neq ?_) | fail))); all_goals (try (conv => whnf)))
        intro hf hsf
        refine ⟨_, ⟨_, _, List.take (0 : Int).toNat ML ++ List.drop ((0 : Int).toNat + 1) ML, List.take (0 : Int).toNat XL ++ List.drop ((0 : Int).toNat + 1) XL, some (_, _), mo + 1, [] ++ [getI matR.dflt ML (0 : Int)], XO ++ [amAt XL (0 : Int)], i + 1⟩, ⟨OInv.step d9 hk0 hk1 (by (simp only [Int.toNat_natCast, Int.toNat_one, List.length_append, List.length_take, List.length_drop, List.length_cons, List.length_nil] at *; omega)) (by (simp only [Int.toNat_natCast, Int.toNat_one, List.length_append, List.length_take, List.length_drop, List.length_cons, List.length_nil] at *; omega)), rfl⟩, by (simp only [Int.toNat_natCast, Int.toNat_one, List.length_append, List.length_take, List.length_drop, List.length_cons, List.length_nil] at *; omega), by ((repeat (refine ⟨⟨_, rfl, (by first | rfl | exact osl_den (by (simp only [Int.toNat_natCast, Int.toNat_one, List.length_append, List.length_take, List.length_drop, List.length_cons, List.length_nil] at *; omega)))⟩, ?_⟩)); trivial), hsf.ren [93, 83] ⟨⟨_, rfl, SameCh.arr (cut_eq ML _ hk0 hk1)⟩, rfl, ⟨_, rfl, SameCh.arr (by simp [p5])⟩, rfl, trivial⟩⟩
      · have hco := p8 bo co rfl
        dsimp only [moKi, moC]
        ((repeat' ((conv => whnf); (first | (refine Ar.fit (by first | omega | (simp only [lo, hi]; omega)) ?_) | (refine VC.mk (by (first | omega | rfl | assumption | exact Sl.plain (by assumption) (by omega) | (and_intros <;> first | omega | rfl | assumption | (simp only [List.length_set]; omega) | (simp only [List.length_append, List.length_take, List.length_replicate, List.length_cons, List.length_nil]; omega) | (simp only [ByteArray.size_extract, ByteArray.size_append]; omega) | (simp only [List.length_cons, List.length_nil]; omega) | (simp only [Int.toNat_natCast, Int.toNat_one, List.length_take, List.length_cons, List.length_nil] at *; omega)))) ?_) | (refine Br.mk ?_ ?_ <;> intro hb <;> (try (first | (exfalso; omega) | exact absurd rfl hb | exact Bool.noConfusion hb | exact absurd (fun e => Bool.noConfusion e) hb | (exfalso; simp only [List.length_cons, List.length_nil] at hb; omega) | (exfalso; simp only [Int.toNat_natCast, Int.toNat_one, List.length_take, List.length_cons, List.length_nil] at hb; omega)))) | (refine XLoad.of (by assumption) rfl rfl (by omega) (by omega) rfl ?_) | (refine New.mk ?_; intro b hb) | (refine New2.mk ?_; intro b c hb hbc) | (refine NewO.mk ?_; intro b c hb hbc) | (refine SameR.same ?_) | (refine Two.mk ?_ ?_) | (refine Tri.mk ?_ ?_ ?_) | (refine ed_eql ?_) | (refine ed_neq ?_) | fail))); all_goals (try (conv => whnf)))
        all_goals ((refine drawnW tysOk mixed (.pull 1 [3, 4, 9, 10] (.pull 2 [3, 4, 9, 10] (.pull 3 [4, 9, 10] (.pull 5 [8, 9, 10] (.pull 6 [7, 8, 9, 10] (.pull 7 [8, 9, 10] (.pull 8 [9, 10] (.one 0 (.one 4 (.one 9 (.pull 10 [] .done))))))))))) (by kernel_rfl) (by kernel_rfl) ?_))
        ((repeat' ((conv => whnf); (first | (refine Ar.fit (by first | omega | (simp only [lo, hi]; omega)) ?_) | (refine VC.mk (by (first | omega | rfl | assumption | exact Sl.plain (by assumption) (by omega) | (and_intros <;> first | omega | rfl | assumption | (simp only [List.length_set]; omega) | (simp only [List.length_append, List.length_take, List.length_replicate, List.length_cons, List.length_nil]; omega) | (simp only [ByteArray.size_extract, ByteArray.size_append]; omega) | (simp only [List.length_cons, List.length_nil]; omega) | (simp only [Int.toNat_natCast, Int.toNat_one, List.length_take, List.length_cons, List.length_nil] at *; omega)))) ?_) | (refine Br.mk ?_ ?_ <;> intro hb <;> (try (first | (exfalso; omega) | exact absurd rfl hb | exact Bool.noConfusion hb | exact absurd (fun e => Bool.noConfusion e) hb | (exfalso; simp only [List.length_cons, List.length_nil] at hb; omega) | (exfalso; simp only [Int.toNat_natCast, Int.toNat_one, List.length_take, List.length_cons, List.length_nil] at hb; omega)))) | (refine XLoad.of (by assumption) rfl rfl (by omega) (by omega) rfl ?_) | (refine New.mk ?_; intro b hb) | (refine New2.mk ?_; intro b c hb hbc) | (refine NewO.mk ?_; intro b c hb hbc) | (refine SameR.same ?_) | (refine Two.mk ?_ ?_) | (refine Tri.mk ?_ ?_ ?_) | (refine ed_eql ?_) | (refine ed_neq ?_) | fail))); all_goals (try (conv => whnf)))
        intro hf hsf
        refine ⟨_, ⟨_, _, List.take (0 : Int).toNat ML ++ List.drop ((0 : Int).toNat + 1) ML, List.take (0 : Int).toNat XL ++ List.drop ((0 : Int).toNat + 1) XL, some (_, _), mo + 1, MO ++ [getI matR.dflt ML (0 : Int)], XO ++ [amAt XL (0 : Int)], i + 1⟩, ⟨OInv.step d9 hk0 hk1 (by (simp only [Int.toNat_natCast, Int.toNat_one, List.length_append, List.length_take, List.length_drop, List.length_cons, List.length_nil] at *; omega)) (by (simp only [Int.toNat_natCast, Int.toNat_one, List.length_append, List.length_take, List.length_drop, List.length_cons, List.length_nil] at *; omega)), rfl⟩, by (simp only [Int.toNat_natCast, Int.toNat_one, List.length_append, List.length_take, List.length_drop, List.length_cons, List.length_nil] at *; omega), by ((repeat (refine ⟨⟨_, rfl, (by first | rfl | exact osl_den (by (simp only [Int.toNat_natCast, Int.toNat_one, List.length_append, List.length_take, List.length_drop, List.length_cons, List.length_nil] at *; omega)))⟩, ?_⟩)); trivial), hsf.ren [93, 83] ⟨⟨_, rfl, SameCh.arr (cut_eq ML _ hk0 hk1)⟩, rfl, ⟨_, rfl, SameCh.arr (by simp [p5])⟩, rfl, trivial⟩⟩
  · have hXL : XL = [] := List.eq_nil_of_length_eq_zero (by omega)
    subst hXL
    have hXO : XO.Perm X := by rwa [List.append_nil] at p10
    have hXOl := hXO.length_eq
    subst p5
    rcases o with _ | ⟨bo, co⟩
    · have hMO := p7 rfl
      subst hMO
      dsimp only [moKi, moC]
      ((repeat' ((conv => whnf); (first | (refine Ar.fit (by first | omega | (simp only [lo, hi]; omega)) ?_) | (refine VC.mk (by (first | omega | rfl | assumption | exact Sl.plain (by assumption) (by omega) | (and_intros <;> first | omega | rfl | assumption | (simp only [List.length_set]; omega) | (simp only [List.length_append, List.length_take, List.length_replicate, List.length_cons, List.length_nil]; omega) | (simp only [ByteArray.size_extract, ByteArray.size_append]; omega) | (simp only [List.length_cons, List.length_nil]; omega) | (simp only [Int.toNat_natCast, Int.toNat_one, List.length_take, List.length_cons, List.length_nil] at *; omega)))) ?_) | (refine Br.mk ?_ ?_ <;> intro hb <;> (try (first | (exfalso; omega) | exact absurd rfl hb | exact Bool.noConfusion hb | exact absurd (fun e => Bool.noConfusion e) hb | (exfalso; simp only [List.length_cons, List.length_nil] at hb; omega) | (exfalso; simp only [Int.toNat_natCast, Int.toNat_one, List.length_take, List.length_cons, List.length_nil] at hb; omega)))) | (refine XLoad.of (by assumption) rfl rfl (by omega) (by omega) rfl ?_) | (refine New.mk ?_; intro b hb) | (refine New2.mk ?_; intro b c hb hbc) | (refine NewO.mk ?_; intro b c hb hbc) | (refine SameR.same ?_) | (refine Two.mk ?_ ?_) | (refine Tri.mk ?_ ?_ ?_) | (refine ed_eql ?_) | (refine ed_neq ?_) | fail))); all_goals (try (conv => whnf)))
      refine CallK.epoch (fun h1 hq => pick_any A n _ L _ k _ M X h1 (hL.grows hq.grows) (by omega) (hM.grows hq.grows) (by omega) (RMs.grows hX hq.grows) hbz) ?_
      rintro h1 u h2 hq ⟨⟨C, d, e, er, R, RA, rfl, hr, hn⟩, hg⟩
      have g2 := hq.grows.trans hg
      obtain ⟨hC, hR⟩ := hn.sl
      clear hn
      have hO2 : Sl matR h2 none 0 [] := Sl.nil _ _ _
      ((repeat' ((conv => whnf); (first | (refine Ar.fit (by first | omega | (simp only [lo, hi]; omega)) ?_) | (refine VC.mk (by (first | omega | rfl | assumption | exact Sl.plain (by assumption) (by omega) | (and_intros <;> first | omega | rfl | assumption | (simp only [List.length_set]; omega) | (simp only [List.length_append, List.length_take, List.length_replicate, List.length_cons, List.length_nil]; omega) | (simp only [ByteArray.size_extract, ByteArray.size_append]; omega) | (simp only [List.length_cons, List.length_nil]; omega) | (simp only [Int.toNat_natCast, Int.toNat_one, List.length_take, List.length_cons, List.length_nil] at *; omega)))) ?_) | (refine Br.mk ?_ ?_ <;> intro hb <;> (try (first | (exfalso; omega) | exact absurd rfl hb | exact Bool.noConfusion hb | exact absurd (fun e => Bool.noConfusion e) hb | (exfalso; simp only [List.length_cons, List.length_nil] at hb; omega) | (exfalso; simp only [Int.toNat_natCast, Int.toNat_one, List.length_take, List.length_cons, List.length_nil] at hb; omega)))) | (refine XLoad.of (by assumption) rfl rfl (by omega) (by omega) rfl ?_) | (refine New.mk ?_; intro b hb) | (refine New2.mk ?_; intro b c hb hbc) | (refine NewO.mk ?_; intro b c hb hbc) | (refine SameR.same ?_) | (refine Two.mk ?_ ?_) | (refine Tri.mk ?_ ?_ ?_) | (refine ed_eql ?_) | (refine ed_neq ?_) | fail))); all_goals (try (conv => whnf)))
      refine CallK.epoch (fun h1 hq => pick_is (hr.perm hXO hd) ((hL.grows g2).grows hq.grows) (by omega) (hO2.grows hq.grows) (by omega) (RMs.grows (RMs.grows p9 g2) hq.grows) (fun a ha => hbz a (hXO.mem_iff.1 ha))) ?_
      rintro h3 u h4 hq3 ⟨⟨C', d', e', R', rfl, hn⟩, hg3⟩
      have g4 := hq3.grows.trans hg3
      obtain ⟨hC', hR'⟩ := hn.sl
      clear hn
      have hC4 := hC.grows g4
      have hR4 := RMs.grows hR g4
      ((repeat' ((conv => whnf); (first | (refine Ar.fit (by first | omega | (simp only [lo, hi]; omega)) ?_) | (refine VC.mk (by (first | omega | rfl | assumption | exact Sl.plain (by assumption) (by omega) | (and_intros <;> first | omega | rfl | assumption | (simp only [List.length_set]; omega) | (simp only [List.length_append, List.length_take, List.length_replicate, List.length_cons, List.length_nil]; omega) | (simp only [ByteArray.size_extract, ByteArray.size_append]; omega) | (simp only [List.length_cons, List.length_nil]; omega) | (simp only [Int.toNat_natCast, Int.toNat_one, List.length_take, List.length_cons, List.length_nil] at *; omega)))) ?_) | (refine Br.mk ?_ ?_ <;> intro hb <;> (try (first | (exfalso; omega) | exact absurd rfl hb | exact Bool.noConfusion hb | exact absurd (fun e => Bool.noConfusion e) hb | (exfalso; simp only [List.length_cons, List.length_nil] at hb; omega) | (exfalso; simp only [Int.toNat_natCast, Int.toNat_one, List.length_take, List.length_cons, List.length_nil] at hb; omega)))) | (refine XLoad.of (by assumption) rfl rfl (by omega) (by omega) rfl ?_) | (refine New.mk ?_; intro b hb) | (refine New2.mk ?_; intro b c hb hbc) | (refine NewO.mk ?_; intro b c hb hbc) | (refine SameR.same ?_) | (refine Two.mk ?_ ?_) | (refine Tri.mk ?_ ?_ ?_) | (refine ed_eql ?_) | (refine ed_neq ?_) | (apply CallK.pure; (case hh => (intro h1 hs; exact fixed_any h1))) | (apply CallK.pure; (case hh => (intro h1 hs; exact (same_any _ _ _ _ _ _ _ _ _ _ _ (hC4.grows hs.grows) (hC'.grows hs.grows) (RMs.grows hR4 hs.grows) (RMs.grows hR' hs.grows)).mono (fun v h' ⟨e1, e2⟩ => ⟨e1.trans (prop_true rfl), e2⟩)))) | fail))); all_goals (try (conv => whnf)))
      exact ⟨fun h' hs => ⟨prop_true rfl, (g2.trans g4).trans hs.grows⟩⟩
    · dsimp only [moKi, moC]
      ((repeat' ((conv => whnf); (first | (refine Ar.fit (by first | omega | (simp only [lo, hi]; omega)) ?_) | (refine VC.mk (by (first | omega | rfl | assumption | exact Sl.plain (by assumption) (by omega) | (and_intros <;> first | omega | rfl | assumption | (simp only [List.length_set]; omega) | (simp only [List.length_append, List.length_take, List.length_replicate, List.length_cons, List.length_nil]; omega) | (simp only [ByteArray.size_extract, ByteArray.size_append]; omega) | (simp only [List.length_cons, List.length_nil]; omega) | (simp only [Int.toNat_natCast, Int.toNat_one, List.length_take, List.length_cons, List.length_nil] at *; omega)))) ?_) | (refine Br.mk ?_ ?_ <;> intro hb <;> (try (first | (exfalso; omega) | exact absurd rfl hb | exact Bool.noConfusion hb | exact absurd (fun e => Bool.noConfusion e) hb | (exfalso; simp only [List.length_cons, List.length_nil] at hb; omega) | (exfalso; simp only [Int.toNat_natCast, Int.toNat_one, List.length_take, List.length_cons, List.length_nil] at hb; omega)))) | (refine XLoad.of (by assumption) rfl rfl (by omega) (by omega) rfl ?_) | (refine New.mk ?_; intro b hb) | (refine New2.mk ?_; intro b c hb hbc) | (refine NewO.mk ?_; intro b c hb hbc) | (refine SameR.same ?_) | (refine Two.mk ?_ ?_) | (refine Tri.mk ?_ ?_ ?_) | (refine ed_eql ?_) | (refine ed_neq ?_) | fail))); all_goals (try (conv => whnf)))
      refine CallK.epoch (fun h1 hq => pick_any A n _ L _ k _ M X h1 (hL.grows hq.grows) (by omega) (hM.grows hq.grows) (by omega) (RMs.grows hX hq.grows) hbz) ?_
      rintro h1 u h2 hq ⟨⟨C, d, e, er, R, RA, rfl, hr, hn⟩, hg⟩
      have g2 := hq.grows.trans hg
      obtain ⟨hC, hR⟩ := hn.sl
      clear hn
      have hO2 : Sl matR h2 (some ⟨bo, 0, none⟩) MO.length MO := (by have t := hq.sl (k := 83) rfl (Nat.le_refl MO.length); rw [List.take_length] at t; exact t.grows hg)
      ((repeat' ((conv => whnf); (first | (refine Ar.fit (by first | omega | (simp only [lo, hi]; omega)) ?_) | (refine VC.mk (by (first | omega | rfl | assumption | exact Sl.plain (by assumption) (by omega) | (and_intros <;> first | omega | rfl | assumption | (simp only [List.length_set]; omega) | (simp only [List.length_append, List.length_take, List.length_replicate, List.length_cons, List.length_nil]; omega) | (simp only [ByteArray.size_extract, ByteArray.size_append]; omega) | (simp only [List.length_cons, List.length_nil]; omega) | (simp only [Int.toNat_natCast, Int.toNat_one, List.length_take, List.length_cons, List.length_nil] at *; omega)))) ?_) | (refine Br.mk ?_ ?_ <;> intro hb <;> (try (first | (exfalso; omega) | exact absurd rfl hb | exact Bool.noConfusion hb | exact absurd (fun e => Bool.noConfusion e) hb | (exfalso; simp only [List.length_cons, List.length_nil] at hb; omega) | (exfalso; simp only [Int.toNat_natCast, Int.toNat_one, List.length_take, List.length_cons, List.length_nil] at hb; omega)))) | (refine XLoad.of (by assumption) rfl rfl (by omega) (by omega) rfl ?_) | (refine New.mk ?_; intro b hb) | (refine New2.mk ?_; intro b c hb hbc) | (refine NewO.mk ?_; intro b c hb hbc) | (refine SameR.same ?_) | (refine Two.mk ?_ ?_) | (refine Tri.mk ?_ ?_ ?_) | (refine ed_eql ?_) | (refine ed_neq ?_) | fail))); all_goals (try (conv => whnf)))
      refine CallK.epoch (fun h1 hq => pick_is (hr.perm hXO hd) ((hL.grows g2).grows hq.grows) (by omega) (hO2.grows hq.grows) (by omega) (RMs.grows (RMs.grows p9 g2) hq.grows) (fun a ha => hbz a (hXO.mem_iff.1 ha))) ?_
      rintro h3 u h4 hq3 ⟨⟨C', d', e', R', rfl, hn⟩, hg3⟩
      have g4 := hq3.grows.trans hg3
      obtain ⟨hC', hR'⟩ := hn.sl
      clear hn
      have hC4 := hC.grows g4
      have hR4 := RMs.grows hR g4
      ((repeat' ((conv => whnf); (first | (refine Ar.fit (by first | omega | (simp only [lo, hi]; omega)) ?_) | (refine VC.mk (by (first | omega | rfl | assumption | exact Sl.plain (by assumption) (by omega) | (and_intros <;> first | omega | rfl | assumption | (simp only [List.length_set]; omega) | (simp only [List.length_append, List.length_take, List.length_replicate, List.length_cons, List.length_nil]; omega) | (simp only [ByteArray.size_extract, ByteArray.size_append]; omega) | (simp only [List.length_cons, List.length_nil]; omega) | (simp only [Int.toNat_natCast, Int.toNat_one, List.length_take, List.length_cons, List.length_nil] at *; omega)))) ?_) | (refine Br.mk ?_ ?_ <;> intro hb <;> (try (first | (exfalso; omega) | exact absurd rfl hb | exact Bool.noConfusion hb | exact absurd (fun e => Bool.noConfusion e) hb | (exfalso; simp only [List.length_cons, List.length_nil] at hb; omega) | (exfalso; simp only [Int.toNat_natCast, Int.toNat_one, List.length_take, List.length_cons, List.length_nil] at hb; omega)))) | (refine XLoad.of (by assumption) rfl rfl (by omega) (by omega) rfl ?_) | (refine New.mk ?_; intro b hb) | (refine New2.mk ?_; intro b c hb hbc) | (refine NewO.mk ?_; intro b c hb hbc) | (refine SameR.same ?_) | (refine Two.mk ?_ ?_) | (refine Tri.mk ?_ ?_ ?_) | (refine ed_eql ?_) | (refine ed_neq ?_) | (apply CallK.pure; (case hh => (intro h1 hs; exact fixed_any h1))) | (apply CallK.pure; (case hh => (intro h1 hs; exact (same_any _ _ _ _ _ _ _ _ _ _ _ (hC4.grows hs.grows) (hC'.grows hs.grows) (RMs.grows hR4 hs.grows) (RMs.grows hR' hs.grows)).mono (fun v h' ⟨e1, e2⟩ => ⟨e1.trans (prop_true rfl), e2⟩)))) | fail))); all_goals (try (conv => whnf)))
      exact ⟨fun h' hs => ⟨prop_true rfl, (g2.trans g4).trans hs.grows⟩⟩
end Go.Ex
