/-
  Pick: the program's answer.
-/
import Derived.Test.YtinelelkjbdaiaaPkP
namespace Go.Ex
open Go.Proofs
set_option linter.unusedVariables false
set_option linter.unusedSimpArgs false
attribute [local irreducible] CallsH

/-- the matches that come in -/
def RM (h : Heap) (m : Mt) (a : Am) : Prop := m.rule = a.rule ∧ m.part = a.part ∧ Sl bindR h m.A m.n a.bs
def GoodM (L : List Pt) (a : Am) : Prop := 0 ≤ a.part ∧ a.part < L.length ∧ 0 ≤ a.rule
/-- what the document says -/
def Res (L : List Pt) (X : List Am) (e : Int) (R : List Am) : Prop :=
  (¬ WellL L ∧ e = 8 ∧ R = []) ∨ (WellL L ∧ (∃ a ∈ X, ¬ GoodM L a) ∧ e = 1 ∧ R = []) ∨ (WellL L ∧ (∀ a ∈ X, GoodM L a) ∧ e = 0 ∧ Picks L X 0 R)
theorem Res.uniq {L : List Pt} {X : List Am} {e e' : Int} {R R' : List Am} (h : Res L X e R) (h' : Res L X e' R') : e = e' ∧ R = R' := by
  rcases h with ⟨a1, rfl, rfl⟩ | ⟨a1, ⟨a, ha, hn⟩, rfl, rfl⟩ | ⟨a1, a2, rfl, a3⟩ <;> rcases h' with ⟨b1, rfl, rfl⟩ | ⟨b1, ⟨b, hb, hm⟩, rfl, rfl⟩ | ⟨b1, b2, rfl, b3⟩
  all_goals first
    | exact ⟨rfl, rfl⟩
    | exact absurd b1 a1
    | exact absurd a1 b1
    | exact absurd (b2 _ ha) hn
    | exact absurd (a2 _ hb) hm
    | exact ⟨rfl, a3.uniq b3⟩
/-- matches in new memory -/
structure NewM (h h' : Heap) (C : Option Addr) (d e : Nat) (R : List Mt) (RA : List Am) : Prop where
  own : OwnSl matR 33 h h' (.slice C d e) R
  reads : All2 (fun m a => m.rule = a.rule ∧ m.part = a.part ∧ OwnSl bindR 40 h h' (.slice m.A m.n m.c) a.bs) R RA
  sep : Sep R
  apart : ∀ m ∈ R, ∀ a, m.A = some a → ∀ a', C = some a' → a'.block ≠ a.block
structure LS where
  b : Nat
  cap : Nat
  Q : List It
  i : Int
structure LInv (L : List Pt) (M : List Mt) (X : List Am) (x : LS) : Prop where
  i0 : 0 ≤ x.i
  i1 : x.i ≤ M.length
  len : x.Q.length = x.i
  heap : HeapTo x.Q x.Q.length
  items : ∀ y ∈ x.Q, 0 ≤ y.nth ∧ y.nth < x.i ∧ y.m = getI matR.dflt M y.nth
  all : ∀ j : Int, 0 ≤ j → j < x.i → ∃ y ∈ x.Q, y.nth = j
  good : ∀ j : Int, 0 ≤ j → j < x.i → GoodM L (amAt X j)
set_option maxHeartbeats 1000000 in
set_option maxRecDepth 10000 in
theorem pick_any (A : Option Addr) (n c : Nat) (L : List Pt) (B : Option Addr) (k c2 : Nat) (M : List Mt) (X : List Am) (h : Heap) (hL : Sl partR h A n L) (hn : n ≤ 300) (hM : Sl matR h B k M) (hk : k ≤ 301)
    (hX : All2 (RM h) M X) (hbz : ∀ a ∈ X, a.bs.length * 32 ≤ 140737488355328) :
    CallsH Try.prog 10 #[.slice A n c, .slice B k c2] h fun v h' => (∃ (C : Option Addr) (d e : Nat) (er : Int) (R : List Mt) (RA : List Am), v = .tuple #[.slice C d e, .int .i64 er] ∧ Res L X er RA ∧ NewM h h' C d e R RA) ∧ Grows h h' := by
  refine enter (rep := rep) (m := 10) (ex := [12, 15, 16, 17, 18, 36]) (cu := []) tysOk Try.func10 rfl (by decide) (rs := [.tmp 4, .tmp 5]) rfl rfl [.val (.slice A n c), .val (.slice B k c2)] rfl ?_
  have hlen := hL.len_eq
  have hmlen := hM.len_eq
  ((repeat' ((conv => whnf); (first | (refine Ar.fit (by first | omega | (simp only [lo, hi]; omega)) ?_) | (refine VC.mk (by (first | omega | rfl | assumption | exact Sl.plain (by assumption) (by omega) | (and_intros <;> first | omega | rfl | assumption | (simp only [List.length_set]; omega) | (simp only [List.length_append, List.length_take, List.length_replicate, List.length_cons, List.length_nil]; omega) | (simp only [ByteArray.size_extract, ByteArray.size_append]; omega) | (simp only [List.length_cons, List.length_nil]; omega) | (simp only [Int.toNat_natCast, Int.toNat_one, List.length_take, List.length_cons, List.length_nil] at *; omega)))) ?_) | (refine Br.mk ?_ ?_ <;> intro hb <;> (try (first | (exfalso; omega) | exact absurd rfl hb | exact Bool.noConfusion hb | exact absurd (fun e => Bool.noConfusion e) hb | (exfalso; simp only [List.length_cons, List.length_nil] at hb; omega) | (exfalso; simp only [Int.toNat_natCast, Int.toNat_one, List.length_take, List.length_cons, List.length_nil] at hb; omega)))) | (refine XLoad.of (by assumption) rfl rfl (by omega) (by omega) rfl ?_) | (refine New.mk ?_; intro b hb) | (refine New2.mk ?_; intro b c hb hbc) | (refine NewO.mk ?_; intro b c hb hbc) | (refine SameR.same ?_) | (refine Two.mk ?_ ?_) | (refine Tri.mk ?_ ?_ ?_) | (refine ed_eql ?_) | (refine ed_neq ?_) | (refine drawn tysOk mixed (by kernel_rfl) ?_) | (apply CallK.pure; (case hh => (intro h1 hs; exact pwell_any A n c L h1 (hL.grows hs.grows) hn))) | fail))); all_goals (try (conv => whnf)))
  · exact ⟨fun h' hs => ⟨⟨none, 0, 0, 8, [], [], rfl, .inl ⟨by simpa using hb, rfl, rfl⟩, ⟨.nil, trivial, List.Pairwise.nil, fun m hm => (by cases hm)⟩⟩, hs.grows⟩⟩
  rename_i b13 hb13
  have hw : WellL L := by
    by_cases hw : WellL L
    · exact hw
    · exfalso; simp_all
  revert b
  intro bq hbq
  have hXl := hX.len
  refine loop_rule tysOk [17] (fun x : LS => [(17, .val (.int .i64 x.i))]) (fun x => QCh bq x.b x.cap x.Q) (fun μ x => LInv L M X x ∧ μ = (k - x.i).toNat) k ⟨b13, 0, [], 0⟩ ?_
  conv => whnf
  refine ⟨by ((repeat (refine ⟨rfl, ?_⟩)); trivial), ⟨rfl, rfl, rfl, rfl, trivial⟩, ⟨⟨by simp, by simp, by simp, fun k k0 k1 => by simp at k1; omega, fun y hy => (by cases hy), fun j j0 j1 => by dsimp only at j1; omega, fun j j0 j1 => by dsimp only at j1; omega⟩, by simp⟩, ?_⟩
  rintro μ ⟨qb, cap, Q, i⟩ ⟨d, hμ⟩
  obtain ⟨d1, d2, d3, d4, d5, d6, d7⟩ := d
  dsimp only at d1 d2 d3 d4 d5 d6 d7 hμ ⊢
  by_cases hi : i < k
  · have hx := hX.get matR.dflt ⟨0, 0, []⟩ i d1 (by omega)
    have hmem : amAt X i ∈ X := by
      simp only [amAt, getI, List.getD]
      rw [List.getElem?_eq_getElem (by omega)]
      exact List.getElem_mem _
    by_cases hg : GoodM L (amAt X i)
    · obtain ⟨g1, g2, g3⟩ := hg
      rw [← hx.1] at g3
      rw [← hx.2.1] at g1 g2
      ((repeat' ((conv => whnf); (first | (refine Ar.fit (by first | omega | (simp only [lo, hi]; omega)) ?_) | (refine VC.mk (by (first | omega | rfl | assumption | exact Sl.plain (by assumption) (by omega) | (and_intros <;> first | omega | rfl | assumption | (simp only [List.length_set]; omega) | (simp only [List.length_append, List.length_take, List.length_replicate, List.length_cons, List.length_nil]; omega) | (simp only [ByteArray.size_extract, ByteArray.size_append]; omega) | (simp only [List.length_cons, List.length_nil]; omega) | (simp only [Int.toNat_natCast, Int.toNat_one, List.length_take, List.length_cons, List.length_nil] at *; omega)))) ?_) | (refine Br.mk ?_ ?_ <;> intro hb <;> (try (first | (exfalso; omega) | exact absurd rfl hb | exact Bool.noConfusion hb | exact absurd (fun e => Bool.noConfusion e) hb | (exfalso; simp only [List.length_cons, List.length_nil] at hb; omega) | (exfalso; simp only [Int.toNat_natCast, Int.toNat_one, List.length_take, List.length_cons, List.length_nil] at hb; omega)))) | (refine XLoad.of (by assumption) rfl rfl (by omega) (by omega) rfl ?_) | (refine New.mk ?_; intro b hb) | (refine New2.mk ?_; intro b c hb hbc) | (refine NewO.mk ?_; intro b c hb hbc) | (refine SameR.same ?_) | (refine Two.mk ?_ ?_) | (refine Tri.mk ?_ ?_ ?_) | (refine ed_eql ?_) | (refine ed_neq ?_) | (refine drawn tysOk mixed (by kernel_rfl) ?_) | fail))); all_goals (try (conv => whnf)))
      refine CallK.q (L := Q) (fun kv b2 cap2 L' => kv = .tup [] ∧ L'.Perm (Q ++ [⟨(getI matR.dflt M i).rule, (getI matR.dflt M i).part, (getI matR.dflt M i).A, (getI matR.dflt M i).n, (getI matR.dflt M i).c, i⟩]) ∧ HeapTo L' L'.length) rfl rfl (fun h1 hs1 => ?_) ?_
      · exact (push_any bq qb cap Q ⟨(getI matR.dflt M i).rule, (getI matR.dflt M i).part, (getI matR.dflt M i).A, (getI matR.dflt M i).n, (getI matR.dflt M i).c, i⟩ h1 hs1 (by omega) d4).mono fun u h' ⟨a1, b', cap', L', a2, a3, a4⟩ => ⟨.tup [], b', cap', L', a1.symm, a4, rfl, a2, a3⟩
      · rintro kv b2 cap2 Q2 ⟨rfl, p1, p2⟩
        have hpl := p1.length_eq
        simp only [List.length_append, List.length_singleton] at hpl
        ((repeat' ((conv => whnf); (first | (refine Ar.fit (by first | omega | (simp only [lo, hi]; omega)) ?_) | (refine VC.mk (by (first | omega | rfl | assumption | exact Sl.plain (by assumption) (by omega) | (and_intros <;> first | omega | rfl | assumption | (simp only [List.length_set]; omega) | (simp only [List.length_append, List.length_take, List.length_replicate, List.length_cons, List.length_nil]; omega) | (simp only [ByteArray.size_extract, ByteArray.size_append]; omega) | (simp only [List.length_cons, List.length_nil]; omega) | (simp only [Int.toNat_natCast, Int.toNat_one, List.length_take, List.length_cons, List.length_nil] at *; omega)))) ?_) | (refine Br.mk ?_ ?_ <;> intro hb <;> (try (first | (exfalso; omega) | exact absurd rfl hb | exact Bool.noConfusion hb | exact absurd (fun e => Bool.noConfusion e) hb | (exfalso; simp only [List.length_cons, List.length_nil] at hb; omega) | (exfalso; simp only [Int.toNat_natCast, Int.toNat_one, List.length_take, List.length_cons, List.length_nil] at hb; omega)))) | (refine XLoad.of (by assumption) rfl rfl (by omega) (by omega) rfl ?_) | (refine New.mk ?_; intro b hb) | (refine New2.mk ?_; intro b c hb hbc) | (refine NewO.mk ?_; intro b c hb hbc) | (refine SameR.same ?_) | (refine Two.mk ?_ ?_) | (refine Tri.mk ?_ ?_ ?_) | (refine ed_eql ?_) | (refine ed_neq ?_) | (refine drawn tysOk mixed (by kernel_rfl) ?_) | fail))); all_goals (try (conv => whnf)))
        refine ⟨μ - 1, ⟨b2, cap2, Q2, i + 1⟩, ⟨⟨by dsimp only; omega, by dsimp only; omega, by dsimp only; omega, p2, fun y hy => ?_, fun j j0 j1 => ?_, fun j j0 j1 => ?_⟩, by dsimp only; omega⟩, by omega, by ((repeat (refine ⟨rfl, ?_⟩)); trivial), rfl, rfl, ⟨rfl, rfl, rfl, rfl, trivial⟩⟩
        · dsimp only
          rcases List.mem_append.1 (p1.subset hy) with hm | hm
          · obtain ⟨q1, q2, q3⟩ := d5 y hm
            exact ⟨q1, by omega, q3⟩
          · have := List.mem_singleton.1 hm
            subst this
            exact ⟨d1, by dsimp only; omega, rfl⟩
        · dsimp only at j1 ⊢
          by_cases hj : j = i
          · subst hj
            exact ⟨_, p1.symm.subset (List.mem_append.2 (.inr (List.mem_singleton.2 rfl))), rfl⟩
          · obtain ⟨y, hy, e⟩ := d6 j j0 (by omega)
            exact ⟨y, p1.symm.subset (List.mem_append.2 (.inl hy)), e⟩
        · dsimp only at j1 ⊢
          by_cases hj : j = i
          · subst hj
            rw [hx.1] at g3
            rw [hx.2.1] at g1 g2
            exact ⟨g1, g2, g3⟩
          · exact d7 j j0 (by omega)
    · have hg' : ¬ (0 ≤ (getI matR.dflt M i).part ∧ (getI matR.dflt M i).part < L.length ∧ 0 ≤ (getI matR.dflt M i).rule) := by
        rw [hx.1, hx.2.1]; exact hg
      ((repeat' ((conv => whnf); (first | (refine Ar.fit (by first | omega | (simp only [lo, hi]; omega)) ?_) | (refine VC.mk (by (first | omega | rfl | assumption | exact Sl.plain (by assumption) (by omega) | (and_intros <;> first | omega | rfl | assumption | (simp only [List.length_set]; omega) | (simp only [List.length_append, List.length_take, List.length_replicate, List.length_cons, List.length_nil]; omega) | (simp only [ByteArray.size_extract, ByteArray.size_append]; omega) | (simp only [List.length_cons, List.length_nil]; omega) | (simp only [Int.toNat_natCast, Int.toNat_one, List.length_take, List.length_cons, List.length_nil] at *; omega)))) ?_) | (refine Br.mk ?_ ?_ <;> intro hb <;> (try (first | (exfalso; omega) | exact absurd rfl hb | exact Bool.noConfusion hb | exact absurd (fun e => Bool.noConfusion e) hb | (exfalso; simp only [List.length_cons, List.length_nil] at hb; omega) | (exfalso; simp only [Int.toNat_natCast, Int.toNat_one, List.length_take, List.length_cons, List.length_nil] at hb; omega)))) | (refine XLoad.of (by assumption) rfl rfl (by omega) (by omega) rfl ?_) | (refine New.mk ?_; intro b hb) | (refine New2.mk ?_; intro b c hb hbc) | (refine NewO.mk ?_; intro b c hb hbc) | (refine SameR.same ?_) | (refine Two.mk ?_ ?_) | (refine Tri.mk ?_ ?_ ?_) | (refine ed_eql ?_) | (refine ed_neq ?_) | (refine drawn tysOk mixed (by kernel_rfl) ?_) | fail))); all_goals (try (conv => whnf)))
      all_goals exact ⟨fun h' hs => ⟨⟨none, 0, 0, 1, [], [], rfl, .inr (.inl ⟨hw, ⟨_, hmem, hg⟩, rfl, rfl⟩), ⟨.nil, trivial, List.Pairwise.nil, fun m hm => (by cases hm)⟩⟩, hs.grows⟩⟩
  · have hik : i = k := by omega
    subst hik
    have hall : ∀ a ∈ X, GoodM L a := fun a ha => by
      obtain ⟨j, hj, rfl⟩ := List.mem_iff_getElem.1 ha
      have := d7 j (by omega) (by omega)
      rwa [show amAt X (j : Int) = X[j] by simp only [amAt, getI, List.getD, Int.toNat_natCast]; rw [List.getElem?_eq_getElem hj]; rfl] at this
    have hat : ∀ j : Int, 0 ≤ j → j < X.length → amAt X j ∈ X := fun j j0 j1 => by
      simp only [amAt, getI, List.getD]
      rw [List.getElem?_eq_getElem (by omega)]
      exact List.getElem_mem _
    ((repeat' ((conv => whnf); (first | (refine Ar.fit (by first | omega | (simp only [lo, hi]; omega)) ?_) | (refine VC.mk (by (first | omega | rfl | assumption | exact Sl.plain (by assumption) (by omega) | (and_intros <;> first | omega | rfl | assumption | (simp only [List.length_set]; omega) | (simp only [List.length_append, List.length_take, List.length_replicate, List.length_cons, List.length_nil]; omega) | (simp only [ByteArray.size_extract, ByteArray.size_append]; omega) | (simp only [List.length_cons, List.length_nil]; omega) | (simp only [Int.toNat_natCast, Int.toNat_one, List.length_take, List.length_cons, List.length_nil] at *; omega)))) ?_) | (refine Br.mk ?_ ?_ <;> intro hb <;> (try (first | (exfalso; omega) | exact absurd rfl hb | exact Bool.noConfusion hb | exact absurd (fun e => Bool.noConfusion e) hb | (exfalso; simp only [List.length_cons, List.length_nil] at hb; omega) | (exfalso; simp only [Int.toNat_natCast, Int.toNat_one, List.length_take, List.length_cons, List.length_nil] at hb; omega)))) | (refine XLoad.of (by assumption) rfl rfl (by omega) (by omega) rfl ?_) | (refine New.mk ?_; intro b hb) | (refine New2.mk ?_; intro b c hb hbc) | (refine NewO.mk ?_; intro b c hb hbc) | (refine SameR.same ?_) | (refine Two.mk ?_ ?_) | (refine Tri.mk ?_ ?_ ?_) | (refine ed_eql ?_) | (refine ed_neq ?_) | (refine drawn tysOk mixed (by kernel_rfl) ?_) | fail))); all_goals (try (conv => whnf)))
    refine CallK.shift (Q := fun h1 u h2 => OwnSl (intR .i64) 3 h1 h2 u (endsL L)) (fun h1 hs1 => pends_any A n c L h1 (hL.grows hs1.grows) hn hw) ?_
    rintro h1 u h2 hq hO hg
    obtain ⟨EA, en, ec, rfl, hE⟩ := Held.new hO hq
    have hEl := hE.sl.len_eq
    rw [endsL_len] at hEl
    have base0 : HS ⟨h, [], QCh bq qb cap Q⟩ h2 := hq.later hg
    clear hO
    ((repeat' ((conv => whnf); (first | (refine Ar.fit (by first | omega | (simp only [lo, hi]; omega)) ?_) | (refine VC.mk (by (first | omega | rfl | assumption | exact Sl.plain (by assumption) (by omega) | (and_intros <;> first | omega | rfl | assumption | (simp only [List.length_set]; omega) | (simp only [List.length_append, List.length_take, List.length_replicate, List.length_cons, List.length_nil]; omega) | (simp only [ByteArray.size_extract, ByteArray.size_append]; omega) | (simp only [List.length_cons, List.length_nil]; omega) | (simp only [Int.toNat_natCast, Int.toNat_one, List.length_take, List.length_cons, List.length_nil] at *; omega)))) ?_) | (refine Br.mk ?_ ?_ <;> intro hb <;> (try (first | (exfalso; omega) | exact absurd rfl hb | exact Bool.noConfusion hb | exact absurd (fun e => Bool.noConfusion e) hb | (exfalso; simp only [List.length_cons, List.length_nil] at hb; omega) | (exfalso; simp only [Int.toNat_natCast, Int.toNat_one, List.length_take, List.length_cons, List.length_nil] at hb; omega)))) | (refine XLoad.of (by assumption) rfl rfl (by omega) (by omega) rfl ?_) | (refine New.mk ?_; intro b hb) | (refine New2.mk ?_; intro b c hb hbc) | (refine NewO.mk ?_; intro b c hb hbc) | (refine SameR.same ?_) | (refine Two.mk ?_ ?_) | (refine Tri.mk ?_ ?_ ?_) | (refine ed_eql ?_) | (refine ed_neq ?_) | (refine drawn tysOk mixed (by kernel_rfl) ?_) | fail))); all_goals (try (conv => whnf)))
    refine CallK.turn ([(14, bq, .box 45 [.osl 13 qb Q.length cap]), (13, qb, .arr 48 itR Q cap), (48, b, .box 53 [.val (.slice EA en ec), .val (.slice none 0 0), .val (.int .i64 0)])]) [] (fun h1 kv q' h' => kv = .tup [] ∧ ∃ x : DS, x.h = h' ∧ x.Q = [] ∧ DInv L X h h1 (blks [(14, bq, .box 45 [.osl 13 qb Q.length cap]), (13, qb, .arr 48 itR Q cap), (48, b, .box 53 [.val (.slice EA en ec), .val (.slice none 0 0), .val (.int .i64 0)])]) bq b (.slice EA en ec) x ∧ Picks L X 0 x.RA ∧ q' = ((14, bq, .box 45 [.osl 13 x.b x.Q.length x.cap]) :: (13, x.b, .arr 48 itR x.Q x.cap) :: (48, b, .box 53 [.val (.slice EA en ec), moK 33 x.o x.R.length, .val (.int .i64 x.f)]) :: moC 33 x.o x.R)) (by repeat' (first | exact trivial | exact rfl | refine And.intro ?_ ?_)) (fun h3 hs hs1 => ?_) ?_
    · have hd : HS ⟨h3, blks ([(14, bq, .box 45 [.osl 13 qb Q.length cap]), (13, qb, .arr 48 itR Q cap), (48, b, .box 53 [.val (.slice EA en ec), .val (.slice none 0 0), .val (.int .i64 0)])] : Chs), DCh bq b (.slice EA en ec) ⟨h3, qb, cap, Q, none, [], [], 0⟩⟩ h3 := hs1.ren [14, 13, 48] ⟨⟨_, rfl, SameCh.rfl⟩, rfl, ⟨_, rfl, SameCh.rfl⟩, rfl, ⟨_, rfl, SameCh.rfl⟩, rfl, trivial⟩
      have hsub : ∀ y ∈ blks ([(14, bq, .box 45 [.osl 13 qb Q.length cap]), (13, qb, .arr 48 itR Q cap), (48, b, .box 53 [.val (.slice EA en ec), .val (.slice none 0 0), .val (.int .i64 0)])] : Chs), y ∈ blks ((48, b, Chunk.box 53 [.val (.slice EA en ec), .val (.slice none 0 0), .val (.int .i64 0)]) :: QCh bq qb cap Q) := fun y hy => by
        simp only [QCh, blks, List.mem_cons, List.not_mem_nil, or_false] at hy ⊢; omega
      have hit : ∀ y ∈ Q, ItX X h3 (blks [(14, bq, .box 45 [.osl 13 qb Q.length cap]), (13, qb, .arr 48 itR Q cap), (48, b, .box 53 [.val (.slice EA en ec), .val (.slice none 0 0), .val (.int .i64 0)])]) y := fun y hy => by
        obtain ⟨y0, y1, y2⟩ := d5 y hy
        have hx := hX.get matR.dflt ⟨0, 0, []⟩ y.nth y0 (by omega)
        rw [← y2] at hx
        exact ⟨y0, by omega, hx.1, hx.2.1, (((Held.start hx.2.2).shift hq hg).anew hs).cap hsub⟩
      have t := drain_any L X h bq b qb cap EA en ec Q h3 _ rfl ⟨hd, d4, by simp; omega, hit, fun j j0 j1 jp => d6 j j0 (by omega), fun _ => rfl, trivial, List.Pairwise.nil, fun T hT => hT⟩ (Nat.le_trans base0.size hs.size) ((hE.anew hs).cap hsub) (fun j j0 j1 => by
        have g := hall _ (hat j j0 j1)
        exact ⟨g.1, g.2.1, hbz _ (hat j j0 j1)⟩) (by omega) hw
      refine t.mono fun u h' ⟨a1, x, a2, a3, a4, a5⟩ => ⟨.tup [], _, a1.symm, ?_, rfl, x, a2, a3, a4, a5, rfl⟩
      subst a2
      have a6 := a4.base
      obtain ⟨xh, xb, xc, xQ, xo, xR, xRA, xf⟩ := x
      rcases xo with _ | ⟨bo, co⟩
      · exact a6.ren [14, 13, 32] ⟨⟨_, rfl, SameCh.rfl⟩, rfl, ⟨_, rfl, SameCh.rfl⟩, rfl, ⟨_, rfl, SameCh.rfl⟩, rfl, trivial⟩
      · exact a6.ren [14, 13, 32, 33] ⟨⟨_, rfl, SameCh.rfl⟩, rfl, ⟨_, rfl, SameCh.rfl⟩, rfl, ⟨_, rfl, SameCh.rfl⟩, rfl, ⟨_, rfl, SameCh.rfl⟩, rfl, trivial⟩
    · rintro h3 kv q' h4 hs hsq hsy ⟨rfl, x, hxh, hxQ, a4, a5, rfl⟩
      have hlaw := base0.trans hsy
      obtain ⟨xh, xb, xc, xQ, xo, xR, xRA, xf⟩ := x
      dsimp only at hxh hxQ a5
      subst hxh
      have hnil := a4.nil
      dsimp only at hnil
      rcases xo with _ | ⟨bo, co⟩
      · dsimp only [moK, moC] at hlaw hsy ⊢
        ((repeat' ((conv => whnf); (first | (refine Ar.fit (by first | omega | (simp only [lo, hi]; omega)) ?_) | (refine VC.mk (by (first | omega | rfl | assumption | exact Sl.plain (by assumption) (by omega) | (and_intros <;> first | omega | rfl | assumption | (simp only [List.length_set]; omega) | (simp only [List.length_append, List.length_take, List.length_replicate, List.length_cons, List.length_nil]; omega) | (simp only [ByteArray.size_extract, ByteArray.size_append]; omega) | (simp only [List.length_cons, List.length_nil]; omega) | (simp only [Int.toNat_natCast, Int.toNat_one, List.length_take, List.length_cons, List.length_nil] at *; omega)))) ?_) | (refine Br.mk ?_ ?_ <;> intro hb <;> (try (first | (exfalso; omega) | exact absurd rfl hb | exact Bool.noConfusion hb | exact absurd (fun e => Bool.noConfusion e) hb | (exfalso; simp only [List.length_cons, List.length_nil] at hb; omega) | (exfalso; simp only [Int.toNat_natCast, Int.toNat_one, List.length_take, List.length_cons, List.length_nil] at hb; omega)))) | (refine XLoad.of (by assumption) rfl rfl (by omega) (by omega) rfl ?_) | (refine New.mk ?_; intro b hb) | (refine New2.mk ?_; intro b c hb hbc) | (refine NewO.mk ?_; intro b c hb hbc) | (refine SameR.same ?_) | (refine Two.mk ?_ ?_) | (refine Tri.mk ?_ ?_ ?_) | (refine ed_eql ?_) | (refine ed_neq ?_) | (refine drawn tysOk mixed (by kernel_rfl) ?_) | fail))); all_goals (try (conv => whnf)))
        have hR0 := hnil rfl
        subst hR0
        refine ⟨fun h' hs => ⟨⟨none, 0, 0, 0, [], xRA, rfl, .inr (.inr ⟨hw, hall, rfl, a5⟩), ⟨.nil, a4.reads.mono fun m hm => (by cases hm), List.Pairwise.nil, fun m hm => (by cases hm)⟩⟩, HS.grows (hlaw.trans hs)⟩⟩
      · dsimp only [moK, moC] at hlaw hsy ⊢
        ((repeat' ((conv => whnf); (first | (refine Ar.fit (by first | omega | (simp only [lo, hi]; omega)) ?_) | (refine VC.mk (by (first | omega | rfl | assumption | exact Sl.plain (by assumption) (by omega) | (and_intros <;> first | omega | rfl | assumption | (simp only [List.length_set]; omega) | (simp only [List.length_append, List.length_take, List.length_replicate, List.length_cons, List.length_nil]; omega) | (simp only [ByteArray.size_extract, ByteArray.size_append]; omega) | (simp only [List.length_cons, List.length_nil]; omega) | (simp only [Int.toNat_natCast, Int.toNat_one, List.length_take, List.length_cons, List.length_nil] at *; omega)))) ?_) | (refine Br.mk ?_ ?_ <;> intro hb <;> (try (first | (exfalso; omega) | exact absurd rfl hb | exact Bool.noConfusion hb | exact absurd (fun e => Bool.noConfusion e) hb | (exfalso; simp only [List.length_cons, List.length_nil] at hb; omega) | (exfalso; simp only [Int.toNat_natCast, Int.toNat_one, List.length_take, List.length_cons, List.length_nil] at hb; omega)))) | (refine XLoad.of (by assumption) rfl rfl (by omega) (by omega) rfl ?_) | (refine New.mk ?_; intro b hb) | (refine New2.mk ?_; intro b c hb hbc) | (refine NewO.mk ?_; intro b c hb hbc) | (refine SameR.same ?_) | (refine Two.mk ?_ ?_) | (refine Tri.mk ?_ ?_ ?_) | (refine ed_eql ?_) | (refine ed_neq ?_) | (refine drawn tysOk mixed (by kernel_rfl) ?_) | fail))); all_goals (try (conv => whnf)))
        refine ⟨fun h' hs => ⟨⟨some ⟨bo, 0, none⟩, _, co, 0, xR, xRA, rfl, .inr (.inr ⟨hw, hall, rfl, a5⟩), ⟨(hlaw.trans hs).own (k := 33) rfl rfl, ?_, a4.sep, ?_⟩⟩, HS.grows (hlaw.trans hs)⟩⟩
        · exact a4.reads.mono fun m hm a ⟨r1, r2, r3⟩ => ⟨r1, r2, (OwnH.anew (S := ⟨xh, _, _⟩) r3 hs).own⟩
        · intro m hm a ha a' ha'
          cases ha'
          obtain ⟨i, hi, rfl⟩ := List.mem_iff_getElem.1 hm
          have hrl := a4.reads.len
          dsimp only at hrl
          have g := a4.reads.get ⟨0, 0, none, 0, 0⟩ ⟨0, 0, []⟩ i (by omega) (by dsimp only; omega)
          have g2 : getI ⟨0, 0, none, 0, 0⟩ xR (i : Int) = xR[i] := by simp only [getI, List.getD, Int.toNat_natCast]; rw [List.getElem?_eq_getElem hi]; rfl
          dsimp only at g
          rw [g2] at g
          have g3 := g.2.2.out a ha
          intro e
          dsimp only at e
          refine g3 ?_
          rw [← e]
          show bo ∈ [bq, xb, b, bo]
          simp
end Go.Ex
