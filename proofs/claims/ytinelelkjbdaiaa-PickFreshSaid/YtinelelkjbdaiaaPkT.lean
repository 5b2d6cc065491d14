/-
  Pick: matches that lie still; the document's examples.
-/
import Derived.Test.YtinelelkjbdaiaaPkS
namespace Go.Ex
open Go.Proofs
set_option linter.unusedVariables false
set_option linter.unusedSimpArgs false
attribute [local irreducible] CallsH

/-- matches that the walk reads, and that none of its own writes reaches -/
structure HM (h0 : Heap) (cap : List Nat) (A : Option Addr) (n : Nat) (M : List Mt) (X : List Am) : Prop where
  sl : Held matR h0 cap A n M
  all : All2 (fun m a => m.rule = a.rule ∧ m.part = a.part ∧ Held bindR h0 cap m.A m.n a.bs) M X
theorem HM.at_ {S : St} {A : Option Addr} {n : Nat} {M : List Mt} {X : List Am} (hk : HM S.h0 S.cap A n M X) {h : Heap} (hs : HS S h) : Sl matR h A n M ∧ All2 (RM h) M X :=
  ⟨hk.sl.at_ hs, hk.all.mono fun m hm a ⟨r1, r2, r3⟩ => ⟨r1, r2, r3.at_ hs⟩⟩
theorem HM.shift {S : St} {A : Option Addr} {n : Nat} {M : List Mt} {X : List Am} (hk : HM S.h0 S.cap A n M X) {h h' : Heap} (hs : HS S h) (hg : Grows h h') : HM h' (blks S.ch) A n M X :=
  ⟨hk.sl.shift hs hg, hk.all.mono fun m hm a ⟨r1, r2, r3⟩ => ⟨r1, r2, r3.shift hs hg⟩⟩
theorem HM.anew {S : St} {A : Option Addr} {n : Nat} {M : List Mt} {X : List Am} (hk : HM S.h0 S.cap A n M X) {h : Heap} (hs : HS S h) : HM h (blks S.ch) A n M X :=
  ⟨hk.sl.anew hs, hk.all.mono fun m hm a ⟨r1, r2, r3⟩ => ⟨r1, r2, r3.anew hs⟩⟩
theorem HM.start {h : Heap} {A : Option Addr} {n : Nat} {M : List Mt} {X : List Am} (hs : Sl matR h A n M) (ha : All2 (RM h) M X) : HM h [] A n M X :=
  ⟨Held.start hs, ha.mono fun m hm a ⟨r1, r2, r3⟩ => ⟨r1, r2, Held.start r3⟩⟩
theorem HM.len {h0 : Heap} {cap : List Nat} {A : Option Addr} {n : Nat} {M : List Mt} {X : List Am} (hk : HM h0 cap A n M X) : M.length = n ∧ X.length = n := ⟨hk.sl.sl.len_eq, hk.all.len.symm.trans hk.sl.sl.len_eq⟩
theorem HM.new {S : St} {h h' : Heap} {C : Option Addr} {d e : Nat} {R : List Mt} {RA : List Am} (hn : NewM h h' C d e R RA) (hs : HS S h) : HM h' (blks S.ch) C d R RA := by
  refine ⟨?_, hn.reads.mono fun m hm a ⟨r1, r2, r3⟩ => ⟨r1, r2, ?_⟩⟩
  · obtain ⟨A, n, c, e1, e2⟩ := Held.new hn.own hs
    cases e1; exact e2
  · obtain ⟨A, n, c, e1, e2⟩ := Held.new r3 hs
    cases e1; exact e2
def plus : Pt := ⟨37, 2, ⟨#[43]⟩⟩
def nameA : Pt := ⟨26, 0, ⟨#[97]⟩⟩
def LF : List Pt := [plus, plus, nameA, nameA, nameA]
def XF : List Am := [⟨0, 1, []⟩, ⟨1, 4, []⟩, ⟨0, 0, []⟩, ⟨1, 0, []⟩]
def YF : List Am := [⟨1, 4, []⟩, ⟨1, 2, []⟩]
theorem wellF : WellL LF := ⟨by decide, by decide⟩
theorem resX : Res LF XF 0 [⟨0, 0, []⟩] := by
  refine .inr (.inr ⟨wellF, ?_, rfl, ?_⟩)
  · intro a ha
    simp only [XF, List.mem_cons, List.not_mem_nil, or_false] at ha
    rcases ha with rfl | rfl | rfl | rfl <;> exact ⟨by decide, by decide, by decide⟩
  · refine Picks.step 0 2 [] (by decide) (by decide) (by decide) (fun j j0 j1 _ => ?_) (.done _ fun j j0 j1 => ?_)
    · have j1 : j < 4 := j1
      rcases (show j = 0 ∨ j = 1 ∨ j = 2 ∨ j = 3 by omega) with rfl | rfl | rfl | rfl <;> (simp only [LtX]; decide)
    · have j1 : j < 4 := j1
      rcases (show j = 0 ∨ j = 1 ∨ j = 2 ∨ j = 3 by omega) with rfl | rfl | rfl | rfl <;> decide
theorem resY : Res LF YF 0 [⟨1, 2, []⟩, ⟨1, 4, []⟩] := by
  refine .inr (.inr ⟨wellF, ?_, rfl, ?_⟩)
  · intro a ha
    simp only [YF, List.mem_cons, List.not_mem_nil, or_false] at ha
    rcases ha with rfl | rfl <;> exact ⟨by decide, by decide, by decide⟩
  · refine Picks.step 0 1 [⟨1, 4, []⟩] (by decide) (by decide) (by decide) (fun j j0 j1 _ => ?_) (Picks.step _ 0 [] (by decide) (by decide) (by decide) (fun j j0 j1 jp => ?_) (.done _ fun j j0 j1 => ?_))
    · have j1 : j < 2 := j1
      rcases (show j = 0 ∨ j = 1 by omega) with rfl | rfl <;> (simp only [LtX]; decide)
    · have j1 : j < 2 := j1
      rcases (show j = 0 ∨ j = 1 by omega) with rfl | rfl
      · simp only [LtX]; decide
      · exact absurd jp (by decide)
    · have j1 : j < 2 := j1
      rcases (show j = 0 ∨ j = 1 by omega) with rfl | rfl <;> decide
theorem pick_is {A : Option Addr} {n c : Nat} {L : List Pt} {B : Option Addr} {k c2 : Nat} {M : List Mt} {X : List Am} {h : Heap} {e0 : Int} {R0 : List Am} (hr : Res L X e0 R0) (hL : Sl partR h A n L) (hn : n ≤ 300) (hM : Sl matR h B k M) (hk : k ≤ 301)
    (hX : All2 (RM h) M X) (hbz : ∀ a ∈ X, a.bs.length * 32 ≤ 140737488355328) :
    CallsH Try.prog 10 #[.slice A n c, .slice B k c2] h fun v h' => (∃ (C : Option Addr) (d e : Nat) (R : List Mt), v = .tuple #[.slice C d e, .int .i64 e0] ∧ NewM h h' C d e R R0) ∧ Grows h h' :=
  (pick_any A n c L B k c2 M X h hL hn hM hk hX hbz).mono fun u h' ⟨⟨C, d, e, er, R, RA, a1, a2, a3⟩, a4⟩ => by
    obtain ⟨rfl, rfl⟩ := hr.uniq a2
    exact ⟨⟨C, d, e, R, a1, a3⟩, a4⟩
theorem rm0 (h : Heap) (r p : Int) : RM h ⟨r, p, none, 0, 0⟩ ⟨r, p, []⟩ := ⟨rfl, rfl, Sl.nil _ _ _⟩
set_option maxHeartbeats 1000000 in
set_option maxRecDepth 10000 in
theorem fixed_any (h : Heap) : CallsH Try.prog 9 #[] h fun v h' => v = .bool true ∧ Grows h h' := by
  refine enter (rep := rep) (m := 8) (ex := []) (cu := []) tysOk Try.func9 rfl (by decide) (rs := [.tmp 0]) rfl rfl [] rfl ?_
  ((repeat' ((conv => whnf); (first | (refine Ar.fit (by first | omega | (simp only [lo, hi]; omega)) ?_) | (refine VC.mk (by (first | omega | rfl | assumption | exact Sl.plain (by assumption) (by omega) | (and_intros <;> first | omega | rfl | assumption | (simp only [List.length_set]; omega) | (simp only [List.length_append, List.length_take, List.length_replicate, List.length_cons, List.length_nil]; omega) | (simp only [ByteArray.size_extract, ByteArray.size_append]; omega) | (simp only [List.length_cons, List.length_nil]; omega) | (simp only [Int.toNat_natCast, Int.toNat_one, List.length_take, List.length_cons, List.length_nil] at *; omega)))) ?_) | (refine Br.mk ?_ ?_ <;> intro hb <;> (try (first | (exfalso; omega) | exact absurd rfl hb | exact Bool.noConfusion hb | exact absurd (fun e => Bool.noConfusion e) hb | (exfalso; simp only [List.length_cons, List.length_nil] at hb; omega) | (exfalso; simp only [Int.toNat_natCast, Int.toNat_one, List.length_take, List.length_cons, List.length_nil] at hb; omega)))) | (refine XLoad.of (by assumption) rfl rfl (by omega) (by omega) rfl ?_) | (refine New.mk ?_; intro b hb) | (refine New2.mk ?_; intro b c hb hbc) | (refine NewO.mk ?_; intro b c hb hbc) | (refine SameR.same ?_) | (refine Two.mk ?_ ?_) | (refine Tri.mk ?_ ?_ ?_) | (refine ed_eql ?_) | (refine ed_neq ?_) | (refine drawn tysOk mixed (by kernel_rfl) ?_) | fail))); all_goals (try (conv => whnf)))
  refine CallK.shift (Q := fun h1 u h2 => ∃ (C : Option Addr) (d e : Nat) (R : List Mt), u = .tuple #[.slice C d e, .int .i64 0] ∧ NewM h1 h2 C d e R [⟨0, 0, []⟩]) (fun h1 hs1 => ?_) ?_
  · exact pick_is resX (hs1.sl (k := 15) rfl (Nat.le_refl 5)) (by decide) (hs1.sl (k := 22) rfl (Nat.le_refl 4)) (by decide) ⟨rm0 _ _ _, rm0 _ _ _, rm0 _ _ _, rm0 _ _ _, trivial⟩ (fun a ha => by
      simp only [XF, List.mem_cons, List.not_mem_nil, or_false] at ha
      rcases ha with rfl | rfl | rfl | rfl <;> decide)
  rintro h1 u h2 hs1 ⟨C, d, e, R, rfl, hn⟩ hg
  have bas := (Bas.start h).shift hs1 hg
  have hm := HM.new hn hs1
  clear hn
  ((repeat' ((conv => whnf); (first | (refine Ar.fit (by first | omega | (simp only [lo, hi]; omega)) ?_) | (refine VC.mk (by (first | omega | rfl | assumption | exact Sl.plain (by assumption) (by omega) | (and_intros <;> first | omega | rfl | assumption | (simp only [List.length_set]; omega) | (simp only [List.length_append, List.length_take, List.length_replicate, List.length_cons, List.length_nil]; omega) | (simp only [ByteArray.size_extract, ByteArray.size_append]; omega) | (simp only [List.length_cons, List.length_nil]; omega) | (simp only [Int.toNat_natCast, Int.toNat_one, List.length_take, List.length_cons, List.length_nil] at *; omega)))) ?_) | (refine Br.mk ?_ ?_ <;> intro hb <;> (try (first | (exfalso; omega) | exact absurd rfl hb | exact Bool.noConfusion hb | exact absurd (fun e => Bool.noConfusion e) hb | (exfalso; simp only [List.length_cons, List.length_nil] at hb; omega) | (exfalso; simp only [Int.toNat_natCast, Int.toNat_one, List.length_take, List.length_cons, List.length_nil] at hb; omega)))) | (refine XLoad.of (by assumption) rfl rfl (by omega) (by omega) rfl ?_) | (refine New.mk ?_; intro b hb) | (refine New2.mk ?_; intro b c hb hbc) | (refine NewO.mk ?_; intro b c hb hbc) | (refine SameR.same ?_) | (refine Two.mk ?_ ?_) | (refine Tri.mk ?_ ?_ ?_) | (refine ed_eql ?_) | (refine ed_neq ?_) | (refine drawn tysOk mixed (by kernel_rfl) ?_) | fail))); all_goals (try (conv => whnf)))
  refine CallK.shift (Q := fun h1 u h2 => ∃ (C : Option Addr) (d e : Nat) (R : List Mt), u = .tuple #[.slice C d e, .int .i64 0] ∧ NewM h1 h2 C d e R [⟨1, 2, []⟩, ⟨1, 4, []⟩]) (fun h1 hs1 => ?_) ?_
  · exact pick_is resY (hs1.sl (k := 15) rfl (Nat.le_refl 5)) (by decide) (hs1.sl (k := 30) rfl (Nat.le_refl 2)) (by decide) ⟨rm0 _ _ _, rm0 _ _ _, trivial⟩ (fun a ha => by
      simp only [YF, List.mem_cons, List.not_mem_nil, or_false] at ha
      rcases ha with rfl | rfl <;> decide)
  rintro h3 u h4 hs3 ⟨C', d', e', R', rfl, hn⟩ hg2
  have bas2 := bas.shift hs3 hg2
  have hm2 := hm.shift hs3 hg2
  have hn2 := HM.new hn hs3
  clear hn
  ((repeat' ((conv => whnf); (first | (refine Ar.fit (by first | omega | (simp only [lo, hi]; omega)) ?_) | (refine VC.mk (by (first | omega | rfl | assumption | exact Sl.plain (by assumption) (by omega) | (and_intros <;> first | omega | rfl | assumption | (simp only [List.length_set]; omega) | (simp only [List.length_append, List.length_take, List.length_replicate, List.length_cons, List.length_nil]; omega) | (simp only [ByteArray.size_extract, ByteArray.size_append]; omega) | (simp only [List.length_cons, List.length_nil]; omega) | (simp only [Int.toNat_natCast, Int.toNat_one, List.length_take, List.length_cons, List.length_nil] at *; omega)))) ?_) | (refine Br.mk ?_ ?_ <;> intro hb <;> (try (first | (exfalso; omega) | exact absurd rfl hb | exact Bool.noConfusion hb | exact absurd (fun e => Bool.noConfusion e) hb | (exfalso; simp only [List.length_cons, List.length_nil] at hb; omega) | (exfalso; simp only [Int.toNat_natCast, Int.toNat_one, List.length_take, List.length_cons, List.length_nil] at hb; omega)))) | (refine XLoad.of (by assumption) rfl rfl (by omega) (by omega) rfl ?_) | (refine New.mk ?_; intro b hb) | (refine New2.mk ?_; intro b c hb hbc) | (refine NewO.mk ?_; intro b c hb hbc) | (refine SameR.same ?_) | (refine Two.mk ?_ ?_) | (refine Tri.mk ?_ ?_ ?_) | (refine ed_eql ?_) | (refine ed_neq ?_) | (refine drawn tysOk mixed (by kernel_rfl) ?_) | (apply CallK.pure; (case hh => (intro h1 hs; exact (same_any _ _ _ _ _ _ _ [⟨0, 0, none, 0, 0⟩] _ [⟨0, 0, []⟩] _ (hm2.at_ hs).1 (hs.sl (k := 43) rfl (Nat.le_refl 1)) (hm2.at_ hs).2 ⟨rm0 _ _ _, trivial⟩).mono (fun v h' ⟨e1, e2⟩ => ⟨e1.trans (prop_true rfl), e2⟩)))) | fail))); all_goals (try (conv => whnf)))
  ((repeat' ((conv => whnf); (first | (refine Ar.fit (by first | omega | (simp only [lo, hi]; omega)) ?_) | (refine VC.mk (by (first | omega | rfl | assumption | exact Sl.plain (by assumption) (by omega) | (and_intros <;> first | omega | rfl | assumption | (simp only [List.length_set]; omega) | (simp only [List.length_append, List.length_take, List.length_replicate, List.length_cons, List.length_nil]; omega) | (simp only [ByteArray.size_extract, ByteArray.size_append]; omega) | (simp only [List.length_cons, List.length_nil]; omega) | (simp only [Int.toNat_natCast, Int.toNat_one, List.length_take, List.length_cons, List.length_nil] at *; omega)))) ?_) | (refine Br.mk ?_ ?_ <;> intro hb <;> (try (first | (exfalso; omega) | exact absurd rfl hb | exact Bool.noConfusion hb | exact absurd (fun e => Bool.noConfusion e) hb | (exfalso; simp only [List.length_cons, List.length_nil] at hb; omega) | (exfalso; simp only [Int.toNat_natCast, Int.toNat_one, List.length_take, List.length_cons, List.length_nil] at hb; omega)))) | (refine XLoad.of (by assumption) rfl rfl (by omega) (by omega) rfl ?_) | (refine New.mk ?_; intro b hb) | (refine New2.mk ?_; intro b c hb hbc) | (refine NewO.mk ?_; intro b c hb hbc) | (refine SameR.same ?_) | (refine Two.mk ?_ ?_) | (refine Tri.mk ?_ ?_ ?_) | (refine ed_eql ?_) | (refine ed_neq ?_) | (refine drawn tysOk mixed (by kernel_rfl) ?_) | (apply CallK.pure; (case hh => (intro h1 hs; exact (same_any _ _ _ _ _ _ _ [⟨1, 2, none, 0, 0⟩, ⟨1, 4, none, 0, 0⟩] _ [⟨1, 2, []⟩, ⟨1, 4, []⟩] _ (hn2.at_ hs).1 (hs.sl (k := 50) rfl (Nat.le_refl 2)) (hn2.at_ hs).2 ⟨rm0 _ _ _, rm0 _ _ _, trivial⟩).mono (fun v h' ⟨e1, e2⟩ => ⟨e1.trans (prop_true rfl), e2⟩)))) | fail))); all_goals (try (conv => whnf)))
  exact ⟨fun h' hs => ⟨prop_true rfl, bas2.fin hs⟩⟩
end Go.Ex
