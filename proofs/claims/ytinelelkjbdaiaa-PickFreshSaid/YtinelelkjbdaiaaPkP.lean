/-
  Pick: all is handed on, the first one in order first.
-/
import Derived.Test.YtinelelkjbdaiaaPkO
namespace Go.Ex
open Go.Proofs
set_option linter.unusedVariables false
set_option linter.unusedSimpArgs false
attribute [local irreducible] CallsH

/-- what is in the queue -/
structure ItX (X : List Am) (h : Heap) (c : List Nat) (y : It) : Prop where
  n0 : 0 ≤ y.nth
  n1 : y.nth < X.length
  r : y.rule = (amAt X y.nth).rule
  p : y.part = (amAt X y.nth).part
  h : Held bindR h c y.A y.n (amAt X y.nth).bs
/-- what has been picked -/
def RX (h00 h : Heap) (c : List Nat) (m : Mt) (a : Am) : Prop := m.rule = a.rule ∧ m.part = a.part ∧ OwnH h00 h c m a.bs
structure DS where
  h : Heap
  b : Nat
  cap : Nat
  Q : List It
  o : Option (Nat × Nat)
  R : List Mt
  RA : List Am
  f : Int
def DCh (bq bp : Nat) (Ev : Value) (x : DS) : Chs := QCh bq x.b x.cap x.Q ++ PCh bp Ev x.o x.R x.f
structure DInv (L : List Pt) (X : List Am) (h00 h : Heap) (c : List Nat) (bq bp : Nat) (Ev : Value) (x : DS) : Prop where
  base : HS ⟨h, c, DCh bq bp Ev x⟩ x.h
  heap : HeapTo x.Q x.Q.length
  size : x.R.length + x.Q.length ≤ 301
  items : ∀ y ∈ x.Q, ItX X h c y
  cover : ∀ i : Int, 0 ≤ i → i < X.length → x.f ≤ (amAt X i).part → ∃ y ∈ x.Q, y.nth = i
  nil : x.o = none → x.R = []
  reads : All2 (RX h00 x.h (blks (DCh bq bp Ev x))) x.R x.RA
  sep : Sep x.R
  so : ∀ T, Picks L X x.f T → Picks L X 0 (x.RA ++ T)
theorem cover_step {X : List Am} {h : Heap} {c : List Nat} {Q Q' : List It} {x : It} {f f' : Int} (hp : (Q' ++ [x]).Perm Q) (hi : ∀ y ∈ Q, ItX X h c y) (hc : ∀ i : Int, 0 ≤ i → i < X.length → f ≤ (amAt X i).part → ∃ y ∈ Q, y.nth = i) (hff : f ≤ f') (hx : x.part < f') :
    ∀ i : Int, 0 ≤ i → i < X.length → f' ≤ (amAt X i).part → ∃ y ∈ Q', y.nth = i := by
  intro i i0 i1 ip
  obtain ⟨y, hy, hn⟩ := hc i i0 i1 (by omega)
  rcases List.mem_append.1 (hp.symm.subset hy) with hm | hm
  · exact ⟨y, hm, hn⟩
  · have := List.mem_singleton.1 hm
    subst this
    have := (hi y hy).p
    rw [hn] at this
    omega
theorem so_step {L : List Pt} {X : List Am} {h : Heap} {c : List Nat} {Q Q' : List It} {x : It} {f : Int} {RA : List Am} (hp : (Q' ++ [x]).Perm Q) (hi : ∀ y ∈ Q, ItX X h c y) (hc : ∀ i : Int, 0 ≤ i → i < X.length → f ≤ (amAt X i).part → ∃ y ∈ Q, y.nth = i)
    (hl : ∀ y ∈ Q', ¬ Lt y x) (hf : ¬ x.part < f) (so : ∀ T, Picks L X f T → Picks L X 0 (RA ++ T)) : ∀ T, Picks L X (endL L x.part) T → Picks L X 0 (RA ++ [amAt X x.nth] ++ T) := by
  intro T hT
  have hx : x ∈ Q := hp.subset (List.mem_append.2 (.inr (List.mem_singleton.2 rfl)))
  obtain ⟨x0, x1, x2, x3, _⟩ := hi x hx
  rw [List.append_assoc]
  refine so _ (.step f x.nth T x0 x1 (by omega) (fun j j0 j1 jf hlt => ?_) (by rw [← x3]; exact hT))
  obtain ⟨y, hy, hn⟩ := hc j j0 j1 jf
  obtain ⟨_, _, y2, y3, _⟩ := hi y hy
  rcases List.mem_append.1 (hp.symm.subset hy) with hm | hm
  · refine hl y hm ?_
    simp only [LtX] at hlt
    rw [← hn, ← y2, ← y3, ← x2, ← x3] at hlt
    exact hlt
  · have := List.mem_singleton.1 hm
    subst this
    rw [← hn] at hlt
    simp only [LtX] at hlt
    omega
theorem OwnSl.later {h00 h h' : Heap} {v : Value} {L : List Bd} (ho : OwnSl bindR 40 h h' v L) (hs : h00.size ≤ h.size) : OwnSl bindR 40 h00 h' v L := by
  cases ho with
  | nil => exact .nil
  | arr b cap L hb hlt hat => exact .arr b cap L (Nat.le_trans hs hb) hlt hat
def TPost (bp : Nat) (Ev : Value) (o : Option (Nat × Nat)) (R : List Mt) (f e : Int) (x : It) (bs : List Bd) (h : Heap) (kv : KV) (q' : Chs) (h' : Heap) : Prop :=
  kv = .tup [] ∧ ((x.part < f ∧ q' = PCh bp Ev o R f) ∨ (¬ x.part < f ∧ ∃ b' c' A' n' d', q' = PCh bp Ev (some (b', c')) (R ++ [⟨x.rule, x.part, A', n', d'⟩]) e ∧ OwnSl bindR 40 h h' (.slice A' n' d') bs ∧ ∀ a, A' = some a → a.block ∉ blks q'))
theorem blks_app {l m : Chs} : blks (l ++ m) = blks l ++ blks m := by
  induction l with
  | nil => rfl
  | cons a l ih => obtain ⟨k, b, c⟩ := a; simp only [List.cons_append, blks, ih]
set_option maxHeartbeats 1000000 in
set_option maxRecDepth 10000 in
theorem drain_any (L : List Pt) (X : List Am) (h00 : Heap) (bq bp b cap : Nat) (EA : Option Addr) (en ec : Nat) (Q : List It) (h : Heap) (c : List Nat) (hc : c = blks (DCh bq bp (.slice EA en ec) ⟨h, b, cap, Q, none, [], [], 0⟩))
    (hI : DInv L X h00 h c bq bp (.slice EA en ec) ⟨h, b, cap, Q, none, [], [], 0⟩) (h00s : h00.size ≤ h.size) (hE : Held (intR .i64) h c EA en (endsL L)) (hX : ∀ i : Int, 0 ≤ i → i < X.length → 0 ≤ (amAt X i).part ∧ (amAt X i).part < L.length ∧ (amAt X i).bs.length * 32 ≤ 140737488355328) (hen : en = L.length) (hw : WellL L) :
    CallsH Try.prog 18 #[.pointer (some ⟨bq, 0, none⟩), .func (.func 19) #[.pointer (some ⟨bp, 0, none⟩)] #[]] h fun v h' => v = .tuple #[] ∧ ∃ x : DS, x.h = h' ∧ x.Q = [] ∧ DInv L X h00 h c bq bp (.slice EA en ec) x ∧ Picks L X 0 x.RA := by
  have hs0 := hI.base
  dsimp only [DCh, PCh, moK, moC] at hs0
  refine enter_in (rep := rep) (m := 6) (ex := [10, 18]) (cu := []) (args := [.own 14 bq 0, .val (.func (.func 19) #[.pointer (some ⟨bp, 0, none⟩)] #[])]) tysOk Try.func18 rfl (by decide) (rs := []) rfl rfl rfl hs0 ?_
  ((repeat' ((conv => whnf); (first | (refine Ar.fit (by first | omega | (simp only [lo, hi]; omega)) ?_) | (refine VC.mk (by (first | omega | rfl | assumption | exact Sl.plain (by assumption) (by omega) | (and_intros <;> first | omega | rfl | assumption | (simp only [List.length_set]; omega) | (simp only [List.length_append, List.length_take, List.length_replicate, List.length_cons, List.length_nil]; omega) | (simp only [ByteArray.size_extract, ByteArray.size_append]; omega) | (simp only [List.length_cons, List.length_nil]; omega) | (simp only [Int.toNat_natCast, Int.toNat_one, List.length_take, List.length_cons, List.length_nil] at *; omega)))) ?_) | (refine Br.mk ?_ ?_ <;> intro hb <;> (try (first | (exfalso; omega) | exact absurd rfl hb | exact Bool.noConfusion hb | exact absurd (fun e => Bool.noConfusion e) hb | (exfalso; simp only [List.length_cons, List.length_nil] at hb; omega) | (exfalso; simp only [Int.toNat_natCast, Int.toNat_one, List.length_take, List.length_cons, List.length_nil] at hb; omega)))) | (refine XLoad.of (by assumption) rfl rfl (by omega) (by omega) rfl ?_) | (refine New.mk ?_; intro b hb) | (refine New2.mk ?_; intro b c hb hbc) | (refine NewO.mk ?_; intro b c hb hbc) | (refine SameR.same ?_) | (refine Two.mk ?_ ?_) | (refine Tri.mk ?_ ?_ ?_) | (refine ed_eql ?_) | (refine ed_neq ?_) | (refine drawn tysOk mixed (by kernel_rfl) ?_) | fail))); all_goals (try (conv => whnf)))
  refine loop_turn tysOk [] (fun x : DS => []) (fun x => ⟨x.h, blks (DCh bq bp (.slice EA en ec) x), DCh bq bp (.slice EA en ec) x⟩) (fun μ x => DInv L X h00 h c bq bp (.slice EA en ec) x ∧ μ = x.Q.length) ?_
  conv => whnf
  refine ⟨fun h1 hs1 => ?_, ?_⟩
  · have b0 : HS ⟨h, c, DCh bq bp (.slice EA en ec) ⟨h1, b, cap, Q, none, [], [], 0⟩⟩ h1 := hs1
    exact ⟨Q.length, ⟨h1, b, cap, Q, none, [], [], 0⟩, ⟨⟨b0, hI.heap, hI.size, hI.items, hI.cover, hI.nil, trivial, hI.sep, hI.so⟩, rfl⟩, by ((repeat (refine ⟨rfl, ?_⟩)); trivial), b0.anew⟩
  rintro μ ⟨hJ, qb, cap, Q, o, R, RA, f⟩ ⟨d, hμ⟩
  have dsz := d.size
  dsimp only at dsz
  rcases o with _ | ⟨bo, co⟩
  · have d' := d
    have hE' := hE
    dsimp only [DCh, PCh, moK, moC] at d hμ ⊢
    ((repeat' ((conv => whnf); (first | (refine Ar.fit (by first | omega | (simp only [lo, hi]; omega)) ?_) | (refine VC.mk (by (first | omega | rfl | assumption | exact Sl.plain (by assumption) (by omega) | (and_intros <;> first | omega | rfl | assumption | (simp only [List.length_set]; omega) | (simp only [List.length_append, List.length_take, List.length_replicate, List.length_cons, List.length_nil]; omega) | (simp only [ByteArray.size_extract, ByteArray.size_append]; omega) | (simp only [List.length_cons, List.length_nil]; omega) | (simp only [Int.toNat_natCast, Int.toNat_one, List.length_take, List.length_cons, List.length_nil] at *; omega)))) ?_) | (refine Br.mk ?_ ?_ <;> intro hb <;> (try (first | (exfalso; omega) | exact absurd rfl hb | exact Bool.noConfusion hb | exact absurd (fun e => Bool.noConfusion e) hb | (exfalso; simp only [List.length_cons, List.length_nil] at hb; omega) | (exfalso; simp only [Int.toNat_natCast, Int.toNat_one, List.length_take, List.length_cons, List.length_nil] at hb; omega)))) | (refine XLoad.of (by assumption) rfl rfl (by omega) (by omega) rfl ?_) | (refine New.mk ?_; intro b hb) | (refine New2.mk ?_; intro b c hb hbc) | (refine NewO.mk ?_; intro b c hb hbc) | (refine SameR.same ?_) | (refine Two.mk ?_ ?_) | (refine Tri.mk ?_ ?_ ?_) | (refine ed_eql ?_) | (refine ed_neq ?_) | (refine drawn tysOk mixed (by kernel_rfl) ?_) | (apply CallK.pure; (case hh => (intro h1 hs; exact qlen_any (some ⟨qb, 0, none⟩) Q.length cap h1))) | fail))); all_goals (try (conv => whnf)))
    · refine CallK.mut (QCh bq qb cap Q) ([(32, bp, .box 53 [.val (.slice EA en ec), .val (.slice none 0 0), .val (.int .i64 f)])]) (fun kv q' => ∃ x b' cap' Q', kv = .val (ItV x) ∧ q' = QCh bq b' cap' Q' ∧ (Q' ++ [x]).Perm Q ∧ HeapTo Q' Q'.length ∧ ∀ y ∈ Q', ¬ Lt y x) ⟨rfl, rfl, rfl, rfl, rfl, rfl, trivial⟩ (fun h1 _ hs1 => ?_) ?_
      · exact (pop_any bq qb cap Q h1 hs1 (by omega) (by omega) d.heap).mono fun u h' ⟨x, b', cap', Q', a1, a2, a3, a4, a5⟩ => ⟨.val (ItV x), QCh bq b' cap' Q', a1.symm, a5, x, b', cap', Q', rfl, rfl, a2, a3, a4⟩
      · rintro kv q' ⟨x, b', cap', Q', rfl, rfl, p1, p2, p3⟩
        have hxQ : x ∈ Q := p1.subset (List.mem_append.2 (.inr (List.mem_singleton.2 rfl)))
        have hit := d.items x hxQ
        obtain ⟨x0, x1, x2, x3, x4⟩ := hit
        obtain ⟨z0, z1, z2⟩ := hX x.nth x0 x1
        rw [← x3] at z0 z1
        have hlen := p1.length_eq
        simp only [List.length_append, List.length_singleton] at hlen
        ((repeat' ((conv => whnf); (first | (refine Ar.fit (by first | omega | (simp only [lo, hi]; omega)) ?_) | (refine VC.mk (by (first | omega | rfl | assumption | exact Sl.plain (by assumption) (by omega) | (and_intros <;> first | omega | rfl | assumption | (simp only [List.length_set]; omega) | (simp only [List.length_append, List.length_take, List.length_replicate, List.length_cons, List.length_nil]; omega) | (simp only [ByteArray.size_extract, ByteArray.size_append]; omega) | (simp only [List.length_cons, List.length_nil]; omega) | (simp only [Int.toNat_natCast, Int.toNat_one, List.length_take, List.length_cons, List.length_nil] at *; omega)))) ?_) | (refine Br.mk ?_ ?_ <;> intro hb <;> (try (first | (exfalso; omega) | exact absurd rfl hb | exact Bool.noConfusion hb | exact absurd (fun e => Bool.noConfusion e) hb | (exfalso; simp only [List.length_cons, List.length_nil] at hb; omega) | (exfalso; simp only [Int.toNat_natCast, Int.toNat_one, List.length_take, List.length_cons, List.length_nil] at hb; omega)))) | (refine XLoad.of (by assumption) rfl rfl (by omega) (by omega) rfl ?_) | (refine New.mk ?_; intro b hb) | (refine New2.mk ?_; intro b c hb hbc) | (refine NewO.mk ?_; intro b c hb hbc) | (refine SameR.same ?_) | (refine Two.mk ?_ ?_) | (refine Tri.mk ?_ ?_ ?_) | (refine ed_eql ?_) | (refine ed_neq ?_) | (refine drawn tysOk mixed (by kernel_rfl) ?_) | fail))); all_goals (try (conv => whnf)))
        refine CallK.turn ([(32, bp, .box 53 [.val (.slice EA en ec), .val (.slice none 0 0), .val (.int .i64 f)])]) (QCh bq b' cap' Q' ++ [(4, b, .box 48 [.val (.int .i64 x.rule), .val (.int .i64 x.part), .val (.slice x.A x.n x.c), .val (.int .i64 x.nth)])]) (TPost bp (.slice EA en ec) none R f (endL L x.part) x (amAt X x.nth).bs) (by repeat' (first | exact trivial | exact rfl | refine And.intro ?_ ?_)) (fun h1 hs hs1 => ?_) ?_
        · have hb := d'.base.trans hs
          have hq : ∀ y ∈ blks ([(32, bp, .box 53 [.val (.slice EA en ec), .val (.slice none 0 0), .val (.int .i64 f)])] : Chs), y ∈ blks ((4, b, Chunk.box 48 [.val (.int .i64 x.rule), .val (.int .i64 x.part), .val (.slice x.A x.n x.c), .val (.int .i64 x.nth)]) :: (QCh bq b' cap' Q' ++ [(32, bp, .box 53 [.val (.slice EA en ec), .val (.slice none 0 0), .val (.int .i64 f)])])) := fun y hy => by
            simp only [blks, List.cons_append, List.nil_append] at hy ⊢
            simp only [List.mem_cons, List.not_mem_nil, or_false] at hy ⊢
            omega
          have t := take_any bp EA en ec (endsL L) none R f x (amAt X x.nth).bs h1 hs1 ((hE.anew hb).cap hq) ((x4.anew hb).cap hq) z2 d.nil (by omega) z0 (by omega)
          exact t.mono fun u h' ⟨a1, a2, a3⟩ => by
            by_cases hf : x.part < f
            · exact ⟨.tup [], _, a1.symm, a2 hf, rfl, .inl ⟨hf, rfl⟩⟩
            · obtain ⟨o', A', n', c', e1, e2, e3, e4⟩ := a3 hf
              rcases o' with _ | ⟨b2, c2⟩
              · exact absurd rfl e1
              · rw [endsL_get L 0 x.part z0 z1] at e2 e4
                exact ⟨.tup [], _, a1.symm, e2, rfl, .inr ⟨hf, b2, c2, A', n', c', rfl, e3, e4⟩⟩
        · rintro hx kv q' hz hsx hsq hsy ⟨rfl, ⟨hf, rfl⟩ | ⟨hf, b2, c2, A', n', c', rfl, e3, e4⟩⟩
          · dsimp only [PCh, moK, moC] at hsx hsq hsy ⊢
            ((repeat' ((conv => whnf); (first | (refine Ar.fit (by first | omega | (simp only [lo, hi]; omega)) ?_) | (refine VC.mk (by (first | omega | rfl | assumption | exact Sl.plain (by assumption) (by omega) | (and_intros <;> first | omega | rfl | assumption | (simp only [List.length_set]; omega) | (simp only [List.length_append, List.length_take, List.length_replicate, List.length_cons, List.length_nil]; omega) | (simp only [ByteArray.size_extract, ByteArray.size_append]; omega) | (simp only [List.length_cons, List.length_nil]; omega) | (simp only [Int.toNat_natCast, Int.toNat_one, List.length_take, List.length_cons, List.length_nil] at *; omega)))) ?_) | (refine Br.mk ?_ ?_ <;> intro hb <;> (try (first | (exfalso; omega) | exact absurd rfl hb | exact Bool.noConfusion hb | exact absurd (fun e => Bool.noConfusion e) hb | (exfalso; simp only [List.length_cons, List.length_nil] at hb; omega) | (exfalso; simp only [Int.toNat_natCast, Int.toNat_one, List.length_take, List.length_cons, List.length_nil] at hb; omega)))) | (refine XLoad.of (by assumption) rfl rfl (by omega) (by omega) rfl ?_) | (refine New.mk ?_; intro b hb) | (refine New2.mk ?_; intro b c hb hbc) | (refine NewO.mk ?_; intro b c hb hbc) | (refine SameR.same ?_) | (refine Two.mk ?_ ?_) | (refine Tri.mk ?_ ?_ ?_) | (refine ed_eql ?_) | (refine ed_neq ?_) | (refine drawn tysOk mixed (by kernel_rfl) ?_) | fail))); all_goals (try (conv => whnf)))
            intro hf2 hsf
            have b4 : HS ⟨h, c, DCh bq bp (.slice EA en ec) ⟨hf2, b', cap', Q', none, R, RA, f⟩⟩ hf2 := HasC.hs ((d'.base.trans hsy).trans hsf) (by repeat' (first | exact trivial | exact rfl | refine And.intro ?_ ?_))
            refine ⟨Q'.length, ⟨hf2, b', cap', Q', none, R, RA, f⟩, ⟨⟨b4, p2, by dsimp only; omega, fun y hy => d'.items y (p1.subset (List.mem_append.2 (.inl hy))), cover_step p1 d'.items d'.cover (Int.le_refl _) hf, d'.nil, ?_, d'.sep, d'.so⟩, rfl⟩, by omega, by ((repeat (refine ⟨rfl, ?_⟩)); trivial), b4.anew⟩
            exact d'.reads.mono fun m hm a ⟨r1, r2, r3⟩ => ⟨r1, r2, ((r3.anew hsy).anew hsf).cap (fun y hy => by simp only [DCh, PCh, moC, QCh, blks, List.cons_append, List.nil_append, List.mem_cons, List.not_mem_nil, or_false] at hy ⊢; omega)⟩
          · have e5 := hw.end_ x.part z0 z1
            have hRl := d'.reads.len
            have e6 : hJ.size ≤ hx.size := hsx.size
            dsimp only [PCh, moK, moC] at hsx hsq hsy e4 ⊢
            ((repeat' ((conv => whnf); (first | (refine Ar.fit (by first | omega | (simp only [lo, hi]; omega)) ?_) | (refine VC.mk (by (first | omega | rfl | assumption | exact Sl.plain (by assumption) (by omega) | (and_intros <;> first | omega | rfl | assumption | (simp only [List.length_set]; omega) | (simp only [List.length_append, List.length_take, List.length_replicate, List.length_cons, List.length_nil]; omega) | (simp only [ByteArray.size_extract, ByteArray.size_append]; omega) | (simp only [List.length_cons, List.length_nil]; omega) | (simp only [Int.toNat_natCast, Int.toNat_one, List.length_take, List.length_cons, List.length_nil] at *; omega)))) ?_) | (refine Br.mk ?_ ?_ <;> intro hb <;> (try (first | (exfalso; omega) | exact absurd rfl hb | exact Bool.noConfusion hb | exact absurd (fun e => Bool.noConfusion e) hb | (exfalso; simp only [List.length_cons, List.length_nil] at hb; omega) | (exfalso; simp only [Int.toNat_natCast, Int.toNat_one, List.length_take, List.length_cons, List.length_nil] at hb; omega)))) | (refine XLoad.of (by assumption) rfl rfl (by omega) (by omega) rfl ?_) | (refine New.mk ?_; intro b hb) | (refine New2.mk ?_; intro b c hb hbc) | (refine NewO.mk ?_; intro b c hb hbc) | (refine SameR.same ?_) | (refine Two.mk ?_ ?_) | (refine Tri.mk ?_ ?_ ?_) | (refine ed_eql ?_) | (refine ed_neq ?_) | (refine drawn tysOk mixed (by kernel_rfl) ?_) | fail))); all_goals (try (conv => whnf)))
            intro hf2 hsf
            have b4 : HS ⟨h, c, DCh bq bp (.slice EA en ec) ⟨hf2, b', cap', Q', some (b2, c2), R ++ [(⟨x.rule, x.part, A', n', c'⟩ : Mt)], RA ++ [amAt X x.nth], endL L x.part⟩⟩ hf2 := HasC.hs ((d'.base.trans hsy).trans hsf) (by repeat' (first | exact trivial | exact rfl | refine And.intro ?_ ?_))
            refine ⟨Q'.length, ⟨hf2, b', cap', Q', some (b2, c2), R ++ [(⟨x.rule, x.part, A', n', c'⟩ : Mt)], RA ++ [amAt X x.nth], endL L x.part⟩, ⟨⟨b4, p2, by dsimp only; rw [List.length_append, List.length_singleton]; omega, fun y hy => d'.items y (p1.subset (List.mem_append.2 (.inl hy))), cover_step (f := f) (f' := endL L x.part) p1 d'.items d'.cover (by omega) (by omega), fun e => (by cases e), ?_, ?_, so_step p1 d'.items d'.cover p3 hf d'.so⟩, rfl⟩, by omega, by ((repeat (refine ⟨rfl, ?_⟩)); trivial), b4.anew⟩
            · refine All2.append (d'.reads.mono fun m hm a ⟨r1, r2, r3⟩ => ⟨r1, r2, ((r3.anew hsy).anew hsf).cap (fun y hy => by simp only [DCh, PCh, moC, QCh, blks, List.cons_append, List.nil_append, List.mem_cons, List.not_mem_nil, or_false] at hy ⊢; omega)⟩) ⟨⟨x2, x3, ?_⟩, trivial⟩
              have e7 : h00.size ≤ hx.size := Nat.le_trans h00s (d'.base.trans hsx).size
              have o1 : OwnH h00 hz (blks (PCh bp (.slice EA en ec) (some (b2, c2)) (R ++ [(⟨x.rule, x.part, A', n', c'⟩ : Mt)]) (endL L x.part) ++ (QCh bq b' cap' Q' ++ [(4, b, .box 48 [.val (.int .i64 x.rule), .val (.int .i64 x.part), .val (.slice x.A x.n x.c), .val (.int .i64 x.nth)])]))) ⟨x.rule, x.part, A', n', c'⟩ (amAt X x.nth).bs := by
                refine ⟨e3.later e7, fun a ha hm => ?_⟩
                rw [blks_app] at hm
                rcases List.mem_append.1 hm with hm | hm
                · exact e4 a ha hm
                · have hl : a.block < hx.size := by
                    refine (hsx.blks_of ?_).1
                    simp only [QCh, blks, List.cons_append, List.nil_append, List.mem_cons, List.not_mem_nil, or_false] at hm ⊢
                    omega
                  obtain ⟨A2, n2, c3, q1, q2, q3⟩ := e3.at_
                  cases q1
                  have := (q3 a ha).1
                  omega
              exact (o1.anew hsf).cap (fun y hy => by simp only [DCh, PCh, moC, QCh, blks, List.cons_append, List.nil_append, List.mem_cons, List.not_mem_nil, or_false] at hy ⊢; omega)
            · refine List.pairwise_append.2 ⟨d'.sep, List.pairwise_singleton _ _, fun m hm m' hm' a a' ha ha' => ?_⟩
              have := List.mem_singleton.1 hm'
              subst this
              obtain ⟨i, hi, rfl⟩ := List.mem_iff_getElem.1 hm
              have g := d'.reads.get ⟨0, 0, none, 0, 0⟩ ⟨0, 0, []⟩ i (by omega) (by dsimp only; omega)
              have g2 : getI ⟨0, 0, none, 0, 0⟩ R (i : Int) = R[i] := by simp only [getI, List.getD, Int.toNat_natCast]; rw [List.getElem?_eq_getElem hi]; rfl
              dsimp only at g
              rw [g2] at g
              have g3 := (g.2.2.lt a ha).2
              obtain ⟨A2, n2, c3, q1, q2, q3⟩ := e3.at_
              cases q1
              have := (q3 a' ha').1
              omega
    · have hQ : Q = [] := List.eq_nil_of_length_eq_zero (by omega)
      refine ⟨fun h' hs => ⟨rfl, ⟨h', qb, cap, Q, none, R, RA, f⟩, rfl, hQ, ⟨d'.base.trans hs, d'.heap, d'.size, d'.items, d'.cover, d'.nil, d'.reads.mono fun m hm a ⟨r1, r2, r3⟩ => ⟨r1, r2, r3.anew hs⟩, d'.sep, d'.so⟩, ?_⟩⟩
      have := d'.so [] (.done f fun i i0 i1 => ?_)
      · rwa [List.append_nil] at this
      · by_cases hp : f ≤ (amAt X i).part
        · obtain ⟨y, hy, _⟩ := d'.cover i i0 i1 hp
          dsimp only at hy
          rw [hQ] at hy
          cases hy
        · omega
  · have d' := d
    have hE' := hE
    dsimp only [DCh, PCh, moK, moC] at d hμ ⊢
    ((repeat' ((conv => whnf); (first | (refine Ar.fit (by first | omega | (simp only [lo, hi]; omega)) ?_) | (refine VC.mk (by (first | omega | rfl | assumption | exact Sl.plain (by assumption) (by omega) | (and_intros <;> first | omega | rfl | assumption | (simp only [List.length_set]; omega) | (simp only [List.length_append, List.length_take, List.length_replicate, List.length_cons, List.length_nil]; omega) | (simp only [ByteArray.size_extract, ByteArray.size_append]; omega) | (simp only [List.length_cons, List.length_nil]; omega) | (simp only [Int.toNat_natCast, Int.toNat_one, List.length_take, List.length_cons, List.length_nil] at *; omega)))) ?_) | (refine Br.mk ?_ ?_ <;> intro hb <;> (try (first | (exfalso; omega) | exact absurd rfl hb | exact Bool.noConfusion hb | exact absurd (fun e => Bool.noConfusion e) hb | (exfalso; simp only [List.length_cons, List.length_nil] at hb; omega) | (exfalso; simp only [Int.toNat_natCast, Int.toNat_one, List.length_take, List.length_cons, List.length_nil] at hb; omega)))) | (refine XLoad.of (by assumption) rfl rfl (by omega) (by omega) rfl ?_) | (refine New.mk ?_; intro b hb) | (refine New2.mk ?_; intro b c hb hbc) | (refine NewO.mk ?_; intro b c hb hbc) | (refine SameR.same ?_) | (refine Two.mk ?_ ?_) | (refine Tri.mk ?_ ?_ ?_) | (refine ed_eql ?_) | (refine ed_neq ?_) | (refine drawn tysOk mixed (by kernel_rfl) ?_) | (apply CallK.pure; (case hh => (intro h1 hs; exact qlen_any (some ⟨qb, 0, none⟩) Q.length cap h1))) | fail))); all_goals (try (conv => whnf)))
    · refine CallK.mut (QCh bq qb cap Q) ([(32, bp, .box 53 [.val (.slice EA en ec), .osl 33 bo R.length co, .val (.int .i64 f)]), (33, bo, .arr 33 matR R co)]) (fun kv q' => ∃ x b' cap' Q', kv = .val (ItV x) ∧ q' = QCh bq b' cap' Q' ∧ (Q' ++ [x]).Perm Q ∧ HeapTo Q' Q'.length ∧ ∀ y ∈ Q', ¬ Lt y x) ⟨rfl, rfl, rfl, rfl, rfl, rfl, rfl, rfl, trivial⟩ (fun h1 _ hs1 => ?_) ?_
      · exact (pop_any bq qb cap Q h1 hs1 (by omega) (by omega) d.heap).mono fun u h' ⟨x, b', cap', Q', a1, a2, a3, a4, a5⟩ => ⟨.val (ItV x), QCh bq b' cap' Q', a1.symm, a5, x, b', cap', Q', rfl, rfl, a2, a3, a4⟩
      · rintro kv q' ⟨x, b', cap', Q', rfl, rfl, p1, p2, p3⟩
        have hxQ : x ∈ Q := p1.subset (List.mem_append.2 (.inr (List.mem_singleton.2 rfl)))
        have hit := d.items x hxQ
        obtain ⟨x0, x1, x2, x3, x4⟩ := hit
        obtain ⟨z0, z1, z2⟩ := hX x.nth x0 x1
        rw [← x3] at z0 z1
        have hlen := p1.length_eq
        simp only [List.length_append, List.length_singleton] at hlen
        ((repeat' ((conv => whnf); (first | (refine Ar.fit (by first | omega | (simp only [lo, hi]; omega)) ?_) | (refine VC.mk (by (first | omega | rfl | assumption | exact Sl.plain (by assumption) (by omega) | (and_intros <;> first | omega | rfl | assumption | (simp only [List.length_set]; omega) | (simp only [List.length_append, List.length_take, List.length_replicate, List.length_cons, List.length_nil]; omega) | (simp only [ByteArray.size_extract, ByteArray.size_append]; omega) | (simp only [List.length_cons, List.length_nil]; omega) | (simp only [Int.toNat_natCast, Int.toNat_one, List.length_take, List.length_cons, List.length_nil] at *; omega)))) ?_) | (refine Br.mk ?_ ?_ <;> intro hb <;> (try (first | (exfalso; omega) | exact absurd rfl hb | exact Bool.noConfusion hb | exact absurd (fun e => Bool.noConfusion e) hb | (exfalso; simp only [List.length_cons, List.length_nil] at hb; omega) | (exfalso; simp only [Int.toNat_natCast, Int.toNat_one, List.length_take, List.length_cons, List.length_nil] at hb; omega)))) | (refine XLoad.of (by assumption) rfl rfl (by omega) (by omega) rfl ?_) | (refine New.mk ?_; intro b hb) | (refine New2.mk ?_; intro b c hb hbc) | (refine NewO.mk ?_; intro b c hb hbc) | (refine SameR.same ?_) | (refine Two.mk ?_ ?_) | (refine Tri.mk ?_ ?_ ?_) | (refine ed_eql ?_) | (refine ed_neq ?_) | (refine drawn tysOk mixed (by kernel_rfl) ?_) | fail))); all_goals (try (conv => whnf)))
        refine CallK.turn ([(32, bp, .box 53 [.val (.slice EA en ec), .osl 33 bo R.length co, .val (.int .i64 f)]), (33, bo, .arr 33 matR R co)]) (QCh bq b' cap' Q' ++ [(4, b, .box 48 [.val (.int .i64 x.rule), .val (.int .i64 x.part), .val (.slice x.A x.n x.c), .val (.int .i64 x.nth)])]) (TPost bp (.slice EA en ec) (some (bo, co)) R f (endL L x.part) x (amAt X x.nth).bs) (by repeat' (first | exact trivial | exact rfl | refine And.intro ?_ ?_)) (fun h1 hs hs1 => ?_) ?_
        · have hb := d'.base.trans hs
          have hq : ∀ y ∈ blks ([(32, bp, .box 53 [.val (.slice EA en ec), .osl 33 bo R.length co, .val (.int .i64 f)]), (33, bo, .arr 33 matR R co)] : Chs), y ∈ blks ((4, b, Chunk.box 48 [.val (.int .i64 x.rule), .val (.int .i64 x.part), .val (.slice x.A x.n x.c), .val (.int .i64 x.nth)]) :: (QCh bq b' cap' Q' ++ [(32, bp, .box 53 [.val (.slice EA en ec), .osl 33 bo R.length co, .val (.int .i64 f)]), (33, bo, .arr 33 matR R co)])) := fun y hy => by
            simp only [blks, List.cons_append, List.nil_append] at hy ⊢
            simp only [List.mem_cons, List.not_mem_nil, or_false] at hy ⊢
            omega
          have t := take_any bp EA en ec (endsL L) (some (bo, co)) R f x (amAt X x.nth).bs h1 hs1 ((hE.anew hb).cap hq) ((x4.anew hb).cap hq) z2 d.nil (by omega) z0 (by omega)
          exact t.mono fun u h' ⟨a1, a2, a3⟩ => by
            by_cases hf : x.part < f
            · exact ⟨.tup [], _, a1.symm, a2 hf, rfl, .inl ⟨hf, rfl⟩⟩
            · obtain ⟨o', A', n', c', e1, e2, e3, e4⟩ := a3 hf
              rcases o' with _ | ⟨b2, c2⟩
              · exact absurd rfl e1
              · rw [endsL_get L 0 x.part z0 z1] at e2 e4
                exact ⟨.tup [], _, a1.symm, e2, rfl, .inr ⟨hf, b2, c2, A', n', c', rfl, e3, e4⟩⟩
        · rintro hx kv q' hz hsx hsq hsy ⟨rfl, ⟨hf, rfl⟩ | ⟨hf, b2, c2, A', n', c', rfl, e3, e4⟩⟩
          · dsimp only [PCh, moK, moC] at hsx hsq hsy ⊢
            ((repeat' ((conv => whnf); (first | (refine Ar.fit (by first | omega | (simp only [lo, hi]; omega)) ?_) | (refine VC.mk (by (first | omega | rfl | assumption | exact Sl.plain (by assumption) (by omega) | (and_intros <;> first | omega | rfl | assumption | (simp only [List.length_set]; omega) | (simp only [List.length_append, List.length_take, List.length_replicate, List.length_cons, List.length_nil]; omega) | (simp only [ByteArray.size_extract, ByteArray.size_append]; omega) | (simp only [List.length_cons, List.length_nil]; omega) | (simp only [Int.toNat_natCast, Int.toNat_one, List.length_take, List.length_cons, List.length_nil] at *; omega)))) ?_) | (refine Br.mk ?_ ?_ <;> intro hb <;> (try (first | (exfalso; omega) | exact absurd rfl hb | exact Bool.noConfusion hb | exact absurd (fun e => Bool.noConfusion e) hb | (exfalso; simp only [List.length_cons, List.length_nil] at hb; omega) | (exfalso; simp only [Int.toNat_natCast, Int.toNat_one, List.length_take, List.length_cons, List.length_nil] at hb; omega)))) | (refine XLoad.of (by assumption) rfl rfl (by omega) (by omega) rfl ?_) | (refine New.mk ?_; intro b hb) | (refine New2.mk ?_; intro b c hb hbc) | (refine NewO.mk ?_; intro b c hb hbc) | (refine SameR.same ?_) | (refine Two.mk ?_ ?_) | (refine Tri.mk ?_ ?_ ?_) | (refine ed_eql ?_) | (refine ed_neq ?_) | (refine drawn tysOk mixed (by kernel_rfl) ?_) | fail))); all_goals (try (conv => whnf)))
            intro hf2 hsf
            have b4 : HS ⟨h, c, DCh bq bp (.slice EA en ec) ⟨hf2, b', cap', Q', some (bo, co), R, RA, f⟩⟩ hf2 := HasC.hs ((d'.base.trans hsy).trans hsf) (by repeat' (first | exact trivial | exact rfl | refine And.intro ?_ ?_))
            refine ⟨Q'.length, ⟨hf2, b', cap', Q', some (bo, co), R, RA, f⟩, ⟨⟨b4, p2, by dsimp only; omega, fun y hy => d'.items y (p1.subset (List.mem_append.2 (.inl hy))), cover_step p1 d'.items d'.cover (Int.le_refl _) hf, d'.nil, ?_, d'.sep, d'.so⟩, rfl⟩, by omega, by ((repeat (refine ⟨rfl, ?_⟩)); trivial), b4.anew⟩
            exact d'.reads.mono fun m hm a ⟨r1, r2, r3⟩ => ⟨r1, r2, ((r3.anew hsy).anew hsf).cap (fun y hy => by simp only [DCh, PCh, moC, QCh, blks, List.cons_append, List.nil_append, List.mem_cons, List.not_mem_nil, or_false] at hy ⊢; omega)⟩
          · have e5 := hw.end_ x.part z0 z1
            have hRl := d'.reads.len
            have e6 : hJ.size ≤ hx.size := hsx.size
            dsimp only [PCh, moK, moC] at hsx hsq hsy e4 ⊢
            ((repeat' ((conv => whnf); (first | (refine Ar.fit (by first | omega | (simp only [lo, hi]; omega)) ?_) | (refine VC.mk (by (first | omega | rfl | assumption | exact Sl.plain (by assumption) (by omega) | (and_intros <;> first | omega | rfl | assumption | (simp only [List.length_set]; omega) | (simp only [List.length_append, List.length_take, List.length_replicate, List.length_cons, List.length_nil]; omega) | (simp only [ByteArray.size_extract, ByteArray.size_append]; omega) | (simp only [List.length_cons, List.length_nil]; omega) | (simp only [Int.toNat_natCast, Int.toNat_one, List.length_take, List.length_cons, List.length_nil] at *; omega)))) ?_) | (refine Br.mk ?_ ?_ <;> intro hb <;> (try (first | (exfalso; omega) | exact absurd rfl hb | exact Bool.noConfusion hb | exact absurd (fun e => Bool.noConfusion e) hb | (exfalso; simp only [List.length_cons, List.length_nil] at hb; omega) | (exfalso; simp only [Int.toNat_natCast, Int.toNat_one, List.length_take, List.length_cons, List.length_nil] at hb; omega)))) | (refine XLoad.of (by assumption) rfl rfl (by omega) (by omega) rfl ?_) | (refine New.mk ?_; intro b hb) | (refine New2.mk ?_; intro b c hb hbc) | (refine NewO.mk ?_; intro b c hb hbc) | (refine SameR.same ?_) | (refine Two.mk ?_ ?_) | (refine Tri.mk ?_ ?_ ?_) | (refine ed_eql ?_) | (refine ed_neq ?_) | (refine drawn tysOk mixed (by kernel_rfl) ?_) | fail))); all_goals (try (conv => whnf)))
            intro hf2 hsf
            have b4 : HS ⟨h, c, DCh bq bp (.slice EA en ec) ⟨hf2, b', cap', Q', some (b2, c2), R ++ [(⟨x.rule, x.part, A', n', c'⟩ : Mt)], RA ++ [amAt X x.nth], endL L x.part⟩⟩ hf2 := HasC.hs ((d'.base.trans hsy).trans hsf) (by repeat' (first | exact trivial | exact rfl | refine And.intro ?_ ?_))
            refine ⟨Q'.length, ⟨hf2, b', cap', Q', some (b2, c2), R ++ [(⟨x.rule, x.part, A', n', c'⟩ : Mt)], RA ++ [amAt X x.nth], endL L x.part⟩, ⟨⟨b4, p2, by dsimp only; rw [List.length_append, List.length_singleton]; omega, fun y hy => d'.items y (p1.subset (List.mem_append.2 (.inl hy))), cover_step (f := f) (f' := endL L x.part) p1 d'.items d'.cover (by omega) (by omega), fun e => (by cases e), ?_, ?_, so_step p1 d'.items d'.cover p3 hf d'.so⟩, rfl⟩, by omega, by ((repeat (refine ⟨rfl, ?_⟩)); trivial), b4.anew⟩
            · refine All2.append (d'.reads.mono fun m hm a ⟨r1, r2, r3⟩ => ⟨r1, r2, ((r3.anew hsy).anew hsf).cap (fun y hy => by simp only [DCh, PCh, moC, QCh, blks, List.cons_append, List.nil_append, List.mem_cons, List.not_mem_nil, or_false] at hy ⊢; omega)⟩) ⟨⟨x2, x3, ?_⟩, trivial⟩
              have e7 : h00.size ≤ hx.size := Nat.le_trans h00s (d'.base.trans hsx).size
              have o1 : OwnH h00 hz (blks (PCh bp (.slice EA en ec) (some (b2, c2)) (R ++ [(⟨x.rule, x.part, A', n', c'⟩ : Mt)]) (endL L x.part) ++ (QCh bq b' cap' Q' ++ [(4, b, .box 48 [.val (.int .i64 x.rule), .val (.int .i64 x.part), .val (.slice x.A x.n x.c), .val (.int .i64 x.nth)])]))) ⟨x.rule, x.part, A', n', c'⟩ (amAt X x.nth).bs := by
                refine ⟨e3.later e7, fun a ha hm => ?_⟩
                rw [blks_app] at hm
                rcases List.mem_append.1 hm with hm | hm
                · exact e4 a ha hm
                · have hl : a.block < hx.size := by
                    refine (hsx.blks_of ?_).1
                    simp only [QCh, blks, List.cons_append, List.nil_append, List.mem_cons, List.not_mem_nil, or_false] at hm ⊢
                    omega
                  obtain ⟨A2, n2, c3, q1, q2, q3⟩ := e3.at_
                  cases q1
                  have := (q3 a ha).1
                  omega
              exact (o1.anew hsf).cap (fun y hy => by simp only [DCh, PCh, moC, QCh, blks, List.cons_append, List.nil_append, List.mem_cons, List.not_mem_nil, or_false] at hy ⊢; omega)
            · refine List.pairwise_append.2 ⟨d'.sep, List.pairwise_singleton _ _, fun m hm m' hm' a a' ha ha' => ?_⟩
              have := List.mem_singleton.1 hm'
              subst this
              obtain ⟨i, hi, rfl⟩ := List.mem_iff_getElem.1 hm
              have g := d'.reads.get ⟨0, 0, none, 0, 0⟩ ⟨0, 0, []⟩ i (by omega) (by dsimp only; omega)
              have g2 : getI ⟨0, 0, none, 0, 0⟩ R (i : Int) = R[i] := by simp only [getI, List.getD, Int.toNat_natCast]; rw [List.getElem?_eq_getElem hi]; rfl
              dsimp only at g
              rw [g2] at g
              have g3 := (g.2.2.lt a ha).2
              obtain ⟨A2, n2, c3, q1, q2, q3⟩ := e3.at_
              cases q1
              have := (q3 a' ha').1
              omega
    · have hQ : Q = [] := List.eq_nil_of_length_eq_zero (by omega)
      refine ⟨fun h' hs => ⟨rfl, ⟨h', qb, cap, Q, some (bo, co), R, RA, f⟩, rfl, hQ, ⟨d'.base.trans hs, d'.heap, d'.size, d'.items, d'.cover, d'.nil, d'.reads.mono fun m hm a ⟨r1, r2, r3⟩ => ⟨r1, r2, r3.anew hs⟩, d'.sep, d'.so⟩, ?_⟩⟩
      have := d'.so [] (.done f fun i i0 i1 => ?_)
      · rwa [List.append_nil] at this
      · by_cases hp : f ≤ (amAt X i).part
        · obtain ⟨y, hy, _⟩ := d'.cover i i0 i1 hp
          dsimp only at hy
          rw [hQ] at hy
          cases hy
        · omega
end Go.Ex
