/-
  Pick: memory that counts anew in the middle of a walk; the picker takes a match.
-/
import Derived.Test.YtinelelkjbdaiaaPkM
namespace Go.Ex
open Go.Proofs
set_option linter.unusedVariables false
set_option linter.unusedSimpArgs false

section
variable {P : Program} {ty : Nat → Option TyI} {rep : Nat → Option RepS} {n m : Nat} {ex cu : List Nat} {S : St} {K : Kn} {X : Esc} {κ : Kt}
theorem HS.anew {h : Heap} (hs : HS S h) : HS ⟨h, blks S.ch, S.ch⟩ h :=
  ⟨Nat.le_refl _, fun _ _ _ => rfl, fun e he => by
    obtain ⟨h1, h2, h3⟩ := hs.chunk e he
    exact ⟨h1, .inr (blks_mem he), h3⟩, hs.apart⟩
theorem Held.anew {τ : Type} {R : Rep τ} {A : Option Addr} {n : Nat} {xs : List τ} (hk : Held R S.h0 S.cap A n xs) {h : Heap} (hs : HS S h) : Held R h (blks S.ch) A n xs :=
  ⟨hk.at_ hs, fun h0 a ha => by
    obtain ⟨h1, h2⟩ := hk.out h0 a ha
    refine ⟨Nat.lt_of_lt_of_le h1 hs.size, fun hm => ?_⟩
    rcases (hs.blks_of hm).2 with h3 | h3
    · omega
    · exact h2 h3⟩
/-- fewer blocks that move -/
theorem Held.cap {τ : Type} {R : Rep τ} {h : Heap} {c c' : List Nat} {A : Option Addr} {n : Nat} {xs : List τ} (hk : Held R h c A n xs) (hc : ∀ b ∈ c', b ∈ c) : Held R h c' A n xs :=
  ⟨hk.sl, fun h0 a ha => ⟨(hk.out h0 a ha).1, fun hm => (hk.out h0 a ha).2 (hc _ hm)⟩⟩
theorem Bas.anew {h : Heap} (hb : Bas h S.h0 S.cap) {h1 : Heap} (hs : HS S h1) : Bas h h1 (blks S.ch) :=
  ⟨hb.fin hs, fun c hc => by
    rcases (hs.blks_of hc).2 with h3 | h3
    · exact Nat.le_trans hb.gr.size h3
    · exact hb.cp c h3⟩
/-- a call that turns q and leaves r, and behind which memory counts anew -/
theorem CallK.turn {f : Nat} {args caps : List KV} {κ : KV → St → Prop} (q r : Chs) (Post : Heap → KV → Chs → Heap → Prop) (hc : HasC S.ch (q ++ r))
    (hh : ∀ h, HS S h → HS ⟨h, blks q, q⟩ h → CallsH P f (args.map den1 ++ caps.map denC).toArray h fun u h' => ∃ kv q', den kv = u ∧ HS ⟨h, blks q, q'⟩ h' ∧ Post h kv q' h')
    (hk : ∀ h kv q' h', HS S h → HS ⟨h, blks q, q'⟩ h' → HS ⟨S.h0, S.cap, q' ++ r⟩ h' → Post h kv q' h' → κ kv ⟨h', blks (q' ++ r), q' ++ r⟩) : CallK P f args caps S κ :=
  ⟨fun h hs => .inl (by
    have := hh h hs (hs.part hc)
    refine ⟨this.1, fun w hw => (this.2 w hw).mono fun e w' ⟨he, u, h1, kv, q', h2, h3, h4⟩ => ⟨he, u, h1, kv, _, h2, (hs.join hc h3).anew, hk h kv q' _ hs h3 (hs.join hc h3) h4⟩⟩)⟩
/-- a loop whose rounds count memory anew -/
theorem loop_turn (hty : TysOk P ty) {c : Code} {α : Type} (cs : List Nat) (l : α → Kn) (st : α → St) (φ : Nat → α → Prop)
    (h : dropK cs K [] fun K0 => (∀ h, HS S h → ∃ μ x, φ μ x ∧ HasK K (l x ++ K0) ∧ HS (st x) h) ∧ ∀ μ x, φ μ x →
      codeK P ty rep n m ex cu c X (fun K' S' => ∀ h, HS S' h → ∃ μ' x', φ μ' x' ∧ μ' < μ ∧ HasK K' (l x' ++ K0) ∧ HS (st x') h) (l x ++ K0) (st x)) :
    Leaf P n ty rep m ex cu (.loop c) X κ K S := ⟨fun w0 a w ha he hs => by
  obtain ⟨K0, h1, h4⟩ := drop_sound h
  obtain ⟨μ0, x0, h3, h5, h6⟩ := h1 _ hs
  refine wp_loop_ghost (fun μ a w => ∃ x, φ μ x ∧ Good n a (l x ++ K0) ∧ SameEnv w0 w ∧ HS (st x) w.heap) μ0 ⟨x0, h3, ha.drop h5.get, he, h6⟩ ?_
  rintro μ a w ⟨x, hx, ha, he, hs⟩
  have := codeK_sound hty c X _ _ _ (h4 μ x hx) w0 a w ha he hs
  refine Code.wp_mono ?_ this
  intro e a w hq
  cases e with
  | normal =>
    obtain ⟨K', S', a1, a2, a3, hq⟩ := hq
    obtain ⟨μ', x', b1, b2, b3, b4⟩ := hq _ a3
    exact ⟨μ', b2, x', b1, a1.drop b3.get, a2, b4⟩
  | exit i => exact hq
  | ret => exact hq
  | panic ch => exact hq
  | goto l => exact hq
  | outgrown => exact hq⟩
theorem XLoad.held {A : Option Addr} {sz : Nat} {i : Int} {f n : Nat} {agg : Bool} {κ : KV → Prop} {τ : Type} {R : Rep τ} {len : Nat} {xs : List τ} (hs : Held R S.h0 S.cap A len xs) (hsz : R.sz = sz) (h0 : 0 ≤ i) (h1 : i < len)
    {l : List Value} (hl : subN f n (R.cells (getI R.dflt xs i)) = some l) (hk : readK agg (mapC l) κ) : XLoad S A sz i f n agg κ :=
  ⟨_, R, len, xs, hs.sl, fun a ha => (hs.out (by omega) a ha).2, hsz, h0, h1, l, hl, hk⟩
theorem XList.held {τ : Type} {R : Rep τ} {A : Option Addr} {n : Nat} {κ : List τ → Prop} {xs : List τ} (hs : Held R S.h0 S.cap A n xs) (hk : κ xs) : XList R S A n κ := ⟨xs, hs.sl, fun h0 a ha => (hs.out h0 a ha).2, hk⟩
end
attribute [local irreducible] CallsH
theorem OwnSl.of_chunk {S : St} {h : Heap} (hs : HS S h) {τ : Type} {k b T cap : Nat} {R : Rep τ} {xs : List τ} (hf : findC S.ch k = some (b, .arr T R xs cap)) (hb : S.h0.size ≤ b) : OwnSl R T S.h0 h (.slice (some ⟨b, 0, none⟩) xs.length cap) xs := by
  obtain ⟨h1, h2, h3⟩ := hs.chunk _ (findC_mem hf)
  exact .arr b cap xs hb h1 h3
theorem HS.ne {S : St} {h : Heap} (hs : HS S h) {k k' b b' : Nat} {c c' : Chunk} (h1 : findC S.ch k = some (b, c)) (h2 : findC S.ch k' = some (b', c')) (hk : k ≠ k') : b ≠ b' :=
  apart_of hs.apart (findC_mem h1) (findC_mem h2) (fun e => hk (congrArg Prod.fst e))
/-- the answers' slice in a slot -/
def moK (k : Nat) (o : Option (Nat × Nat)) (n : Nat) : KV := match o with
  | none => .val (.slice none 0 0)
  | some (b, c) => .osl k b n c
def moC (k : Nat) (o : Option (Nat × Nat)) (L : List Mt) : Chs := match o with
  | none => []
  | some (b, c) => [(k, b, .arr 33 matR L c)]
/-- the picker in memory -/
def PCh (bp : Nat) (E : Value) (o : Option (Nat × Nat)) (R : List Mt) (f : Int) : Chs := (32, bp, .box 53 [.val E, moK 33 o R.length, .val (.int .i64 f)]) :: moC 33 o R
set_option maxHeartbeats 1000000 in
set_option maxRecDepth 10000 in
theorem take_any (bp : Nat) (EA : Option Addr) (en ec : Nat) (E : List Int) (o : Option (Nat × Nat)) (R : List Mt) (f : Int) (x : It) (bs : List Bd) (h : Heap)
    (hs : HS ⟨h, blks (PCh bp (.slice EA en ec) o R f), PCh bp (.slice EA en ec) o R f⟩ h) (hE : Held (intR .i64) h (blks (PCh bp (.slice EA en ec) o R f)) EA en E)
    (hx : Held bindR h (blks (PCh bp (.slice EA en ec) o R f)) x.A x.n bs) (hbz : bs.length * 32 ≤ 140737488355328) (ho : o = none → R = []) (hR : R.length ≤ 300) (hx0 : 0 ≤ x.part) (hx1 : x.part < en) :
    CallsH Try.prog 19 #[.pointer (some ⟨bp, 0, none⟩), .agg ⟨itR.cells x⟩] h fun v h' => v = .tuple #[] ∧
      (x.part < f → HS ⟨h, blks (PCh bp (.slice EA en ec) o R f), PCh bp (.slice EA en ec) o R f⟩ h') ∧
      (¬ x.part < f → ∃ o' A' n' c', o' ≠ none ∧ HS ⟨h, blks (PCh bp (.slice EA en ec) o R f), PCh bp (.slice EA en ec) o' (R ++ [⟨x.rule, x.part, A', n', c'⟩]) (getI 0 E x.part)⟩ h' ∧
        OwnSl bindR 40 h h' (.slice A' n' c') bs ∧ ∀ a, A' = some a → a.block ∉ blks (PCh bp (.slice EA en ec) o' (R ++ [⟨x.rule, x.part, A', n', c'⟩]) (getI 0 E x.part))) := by
  have hEs := hE.sl
  rcases o with _ | ⟨bo, co⟩
  · dsimp only [PCh, moK, moC, blks] at hs hE hx ⊢
    have hR0 := ho rfl
    subst hR0
    refine enter_in (rep := rep) (m := 4) (ex := [11]) (cu := []) (args := [.own 32 bp 0, .agg [.val (.int .i64 x.rule), .val (.int .i64 x.part), .val (.slice x.A x.n x.c), .val (.int .i64 x.nth)]]) tysOk Try.func19 rfl (by decide) (rs := []) rfl rfl rfl hs ?_
    ((repeat' ((conv => whnf); (first | (refine Ar.fit (by first | omega | (simp only [lo, hi]; omega)) ?_) | (refine VC.mk (by (first | omega | rfl | assumption | exact Sl.plain (by assumption) (by omega) | (and_intros <;> first | omega | rfl | assumption | (simp only [List.length_set]; omega) | (simp only [List.length_append, List.length_take, List.length_replicate, List.length_cons, List.length_nil]; omega) | (simp only [ByteArray.size_extract, ByteArray.size_append]; omega) | (simp only [List.length_cons, List.length_nil]; omega) | (simp only [Int.toNat_natCast, Int.toNat_one, List.length_take, List.length_cons, List.length_nil] at *; omega)))) ?_) | (refine Br.mk ?_ ?_ <;> intro hb <;> (try (first | (exfalso; omega) | exact absurd rfl hb | exact Bool.noConfusion hb | exact absurd (fun e => Bool.noConfusion e) hb | (exfalso; simp only [List.length_cons, List.length_nil] at hb; omega) | (exfalso; simp only [Int.toNat_natCast, Int.toNat_one, List.length_take, List.length_cons, List.length_nil] at hb; omega)))) | (refine XLoad.of (by assumption) rfl rfl (by omega) (by omega) rfl ?_) | (refine New.mk ?_; intro b hb) | (refine New2.mk ?_; intro b c hb hbc) | (refine NewO.mk ?_; intro b c hb hbc) | (refine SameR.same ?_) | (refine Two.mk ?_ ?_) | (refine Tri.mk ?_ ?_ ?_) | (refine ed_eql ?_) | (refine ed_neq ?_) | (refine drawn tysOk mixed (by kernel_rfl) ?_) | fail))); all_goals (try (conv => whnf)))
    · exact ⟨fun h' hs => ⟨rfl, fun _ => hs.ren [32] ⟨⟨_, rfl, SameCh.rfl⟩, rfl, trivial⟩, fun hn => absurd hb hn⟩⟩
    refine XList.held hx ?_
    ((repeat' ((conv => whnf); (first | (refine Ar.fit (by first | omega | (simp only [lo, hi]; omega)) ?_) | (refine VC.mk (by (first | omega | rfl | assumption | exact Sl.plain (by assumption) (by omega) | (and_intros <;> first | omega | rfl | assumption | (simp only [List.length_set]; omega) | (simp only [List.length_append, List.length_take, List.length_replicate, List.length_cons, List.length_nil]; omega) | (simp only [ByteArray.size_extract, ByteArray.size_append]; omega) | (simp only [List.length_cons, List.length_nil]; omega) | (simp only [Int.toNat_natCast, Int.toNat_one, List.length_take, List.length_cons, List.length_nil] at *; omega)))) ?_) | (refine Br.mk ?_ ?_ <;> intro hb <;> (try (first | (exfalso; omega) | exact absurd rfl hb | exact Bool.noConfusion hb | exact absurd (fun e => Bool.noConfusion e) hb | (exfalso; simp only [List.length_cons, List.length_nil] at hb; omega) | (exfalso; simp only [Int.toNat_natCast, Int.toNat_one, List.length_take, List.length_cons, List.length_nil] at hb; omega)))) | (refine XLoad.of (by assumption) rfl rfl (by omega) (by omega) rfl ?_) | (refine New.mk ?_; intro b hb) | (refine New2.mk ?_; intro b c hb hbc) | (refine NewO.mk ?_; intro b c hb hbc) | (refine SameR.same ?_) | (refine Two.mk ?_ ?_) | (refine Tri.mk ?_ ?_ ?_) | (refine ed_eql ?_) | (refine ed_neq ?_) | fail))); all_goals (try (conv => whnf)))
    all_goals ((refine drawnW tysOk mixed (.pull 0 [9, 10, 11] (.pull 1 [2, 3, 4, 8, 9, 10, 11] (.pull 2 [3, 4, 8, 9, 10, 11] (.pull 3 [4, 8, 9, 10, 11] (.pull 5 [6, 7, 8, 9, 10, 11] (.pull 6 [7, 8, 9, 10, 11] (.br 4 7 (.one 7 (.one 8 (.pull 9 [10, 11] (.pull 10 [11] (.one 11 .done))))) (.pull 4 [8, 9, 10, 11] (.one 8 (.pull 9 [10, 11] (.pull 10 [11] (.one 11 .done)))))))))))) (by kernel_rfl) (by kernel_rfl) ?_))
    ((repeat' ((conv => whnf); (first | (refine Ar.fit (by first | omega | (simp only [lo, hi]; omega)) ?_) | (refine VC.mk (by (first | omega | rfl | assumption | exact Sl.plain (by assumption) (by omega) | (and_intros <;> first | omega | rfl | assumption | (simp only [List.length_set]; omega) | (simp only [List.length_append, List.length_take, List.length_replicate, List.length_cons, List.length_nil]; omega) | (simp only [ByteArray.size_extract, ByteArray.size_append]; omega) | (simp only [List.length_cons, List.length_nil]; omega) | (simp only [Int.toNat_natCast, Int.toNat_one, List.length_take, List.length_cons, List.length_nil] at *; omega)))) ?_) | (refine Br.mk ?_ ?_ <;> intro hb <;> (try (first | (exfalso; omega) | exact absurd rfl hb | exact Bool.noConfusion hb | exact absurd (fun e => Bool.noConfusion e) hb | (exfalso; simp only [List.length_cons, List.length_nil] at hb; omega) | (exfalso; simp only [Int.toNat_natCast, Int.toNat_one, List.length_take, List.length_cons, List.length_nil] at hb; omega)))) | (refine XLoad.of (by assumption) rfl rfl (by omega) (by omega) rfl ?_) | (refine New.mk ?_; intro b hb) | (refine New2.mk ?_; intro b c hb hbc) | (refine NewO.mk ?_; intro b c hb hbc) | (refine SameR.same ?_) | (refine Two.mk ?_ ?_) | (refine Tri.mk ?_ ?_ ?_) | (refine ed_eql ?_) | (refine ed_neq ?_) | fail))); all_goals (try (conv => whnf)))
    all_goals ((refine drawnW tysOk mixed (.pull 0 [10, 11, 12] (.pull 1 [2, 3, 4, 8, 9, 10, 11, 12] (.pull 2 [3, 4, 8, 9, 10, 11, 12] (.pull 3 [4, 8, 9, 10, 11, 12] (.pull 5 [6, 7, 8, 9, 10, 11, 12] (.pull 6 [7, 8, 9, 10, 11, 12] (.pull 4 [8, 9, 10, 11, 12] (.pull 7 [8, 9, 10, 11, 12] (.pull 8 [9, 10, 11, 12] (.pull 9 [10, 11, 12] (.pull 10 [11, 12] (.pull 11 [12] (.one 12 .done))))))))))))) (by kernel_rfl) (by kernel_rfl) ?_))
    ((repeat' ((conv => whnf); (first | (refine Ar.fit (by first | omega | (simp only [lo, hi]; omega)) ?_) | (refine VC.mk (by (first | omega | rfl | assumption | exact Sl.plain (by assumption) (by omega) | (and_intros <;> first | omega | rfl | assumption | (simp only [List.length_set]; omega) | (simp only [List.length_append, List.length_take, List.length_replicate, List.length_cons, List.length_nil]; omega) | (simp only [ByteArray.size_extract, ByteArray.size_append]; omega) | (simp only [List.length_cons, List.length_nil]; omega) | (simp only [Int.toNat_natCast, Int.toNat_one, List.length_take, List.length_cons, List.length_nil] at *; omega)))) ?_) | (refine Br.mk ?_ ?_ <;> intro hb <;> (try (first | (exfalso; omega) | exact absurd rfl hb | exact Bool.noConfusion hb | exact absurd (fun e => Bool.noConfusion e) hb | (exfalso; simp only [List.length_cons, List.length_nil] at hb; omega) | (exfalso; simp only [Int.toNat_natCast, Int.toNat_one, List.length_take, List.length_cons, List.length_nil] at hb; omega)))) | (refine XLoad.of (by assumption) rfl rfl (by omega) (by omega) rfl ?_) | (refine New.mk ?_; intro b hb) | (refine New2.mk ?_; intro b c hb hbc) | (refine NewO.mk ?_; intro b c hb hbc) | (refine SameR.same ?_) | (refine Two.mk ?_ ?_) | (refine Tri.mk ?_ ?_ ?_) | (refine ed_eql ?_) | (refine ed_neq ?_) | (refine XLoad.held hE rfl (by omega) (by omega) rfl ?_) | fail))); all_goals (try (conv => whnf)))
    all_goals first
      | (have hz : bs = [] := List.eq_nil_of_length_eq_zero (by assumption)
         subst hz
         refine ⟨fun h' hs => ⟨rfl, fun hn => absurd hn (by assumption), fun _ => ⟨some (_, _), none, 0, 0, fun e => (by cases e), hs.ren [32, 26] ⟨⟨_, rfl, SameCh.box rfl⟩, rfl, ⟨_, rfl, SameCh.rfl⟩, rfl, trivial⟩, .nil, fun a ha => (by cases ha)⟩⟩⟩)
      | (refine ⟨fun h' hs => ⟨rfl, fun hn => absurd hn (by assumption), fun _ => ⟨some (_, _), some ⟨_, 0, none⟩, _, _, fun e => (by cases e), hs.ren [32, 26] ⟨⟨_, rfl, SameCh.box rfl⟩, rfl, ⟨_, rfl, SameCh.rfl⟩, rfl, trivial⟩, OwnSl.of_chunk (k := 15) hs rfl (by assumption), fun a ha => ?_⟩⟩⟩
         cases ha
         have n1 := hs.ne (k := 15) (k' := 32) rfl rfl (by decide)
         have n2 := hs.ne (k := 15) (k' := 26) rfl rfl (by decide)
         intro hm
         rcases List.mem_cons.1 hm with hm | hm
         · exact n1 hm
         · rcases List.mem_cons.1 hm with hm | hm
           · exact n2 hm
           · cases hm)
  · dsimp only [PCh, moK, moC, blks] at hs hE hx ⊢
    have hcap : R.length ≤ co := by
      obtain ⟨_, _, _, h1, _⟩ := (hs.chunk (33, bo, .arr 33 matR R co) (by simp)).2.2
      exact h1
    refine enter_in (rep := rep) (m := 4) (ex := [11]) (cu := []) (args := [.own 32 bp 0, .agg [.val (.int .i64 x.rule), .val (.int .i64 x.part), .val (.slice x.A x.n x.c), .val (.int .i64 x.nth)]]) tysOk Try.func19 rfl (by decide) (rs := []) rfl rfl rfl hs ?_
    ((repeat' ((conv => whnf); (first | (refine Ar.fit (by first | omega | (simp only [lo, hi]; omega)) ?_) | (refine VC.mk (by (first | omega | rfl | assumption | exact Sl.plain (by assumption) (by omega) | (and_intros <;> first | omega | rfl | assumption | (simp only [List.length_set]; omega) | (simp only [List.length_append, List.length_take, List.length_replicate, List.length_cons, List.length_nil]; omega) | (simp only [ByteArray.size_extract, ByteArray.size_append]; omega) | (simp only [List.length_cons, List.length_nil]; omega) | (simp only [Int.toNat_natCast, Int.toNat_one, List.length_take, List.length_cons, List.length_nil] at *; omega)))) ?_) | (refine Br.mk ?_ ?_ <;> intro hb <;> (try (first | (exfalso; omega) | exact absurd rfl hb | exact Bool.noConfusion hb | exact absurd (fun e => Bool.noConfusion e) hb | (exfalso; simp only [List.length_cons, List.length_nil] at hb; omega) | (exfalso; simp only [Int.toNat_natCast, Int.toNat_one, List.length_take, List.length_cons, List.length_nil] at hb; omega)))) | (refine XLoad.of (by assumption) rfl rfl (by omega) (by omega) rfl ?_) | (refine New.mk ?_; intro b hb) | (refine New2.mk ?_; intro b c hb hbc) | (refine NewO.mk ?_; intro b c hb hbc) | (refine SameR.same ?_) | (refine Two.mk ?_ ?_) | (refine Tri.mk ?_ ?_ ?_) | (refine ed_eql ?_) | (refine ed_neq ?_) | (refine drawn tysOk mixed (by kernel_rfl) ?_) | fail))); all_goals (try (conv => whnf)))
    · exact ⟨fun h' hs => ⟨rfl, fun _ => hs.ren [32, 33] ⟨⟨_, rfl, SameCh.rfl⟩, rfl, ⟨_, rfl, SameCh.rfl⟩, rfl, trivial⟩, fun hn => absurd hb hn⟩⟩
    refine XList.held hx ?_
    ((repeat' ((conv => whnf); (first | (refine Ar.fit (by first | omega | (simp only [lo, hi]; omega)) ?_) | (refine VC.mk (by (first | omega | rfl | assumption | exact Sl.plain (by assumption) (by omega) | (and_intros <;> first | omega | rfl | assumption | (simp only [List.length_set]; omega) | (simp only [List.length_append, List.length_take, List.length_replicate, List.length_cons, List.length_nil]; omega) | (simp only [ByteArray.size_extract, ByteArray.size_append]; omega) | (simp only [List.length_cons, List.length_nil]; omega) | (simp only [Int.toNat_natCast, Int.toNat_one, List.length_take, List.length_cons, List.length_nil] at *; omega)))) ?_) | (refine Br.mk ?_ ?_ <;> intro hb <;> (try (first | (exfalso; omega) | exact absurd rfl hb | exact Bool.noConfusion hb | exact absurd (fun e => Bool.noConfusion e) hb | (exfalso; simp only [List.length_cons, List.length_nil] at hb; omega) | (exfalso; simp only [Int.toNat_natCast, Int.toNat_one, List.length_take, List.length_cons, List.length_nil] at hb; omega)))) | (refine XLoad.of (by assumption) rfl rfl (by omega) (by omega) rfl ?_) | (refine New.mk ?_; intro b hb) | (refine New2.mk ?_; intro b c hb hbc) | (refine NewO.mk ?_; intro b c hb hbc) | (refine SameR.same ?_) | (refine Two.mk ?_ ?_) | (refine Tri.mk ?_ ?_ ?_) | (refine ed_eql ?_) | (refine ed_neq ?_) | fail))); all_goals (try (conv => whnf)))
    all_goals ((refine drawnW tysOk mixed (.pull 0 [9, 10, 11] (.pull 1 [2, 3, 4, 8, 9, 10, 11] (.pull 2 [3, 4, 8, 9, 10, 11] (.pull 3 [4, 8, 9, 10, 11] (.pull 5 [6, 7, 8, 9, 10, 11] (.pull 6 [7, 8, 9, 10, 11] (.br 4 7 (.one 7 (.one 8 (.pull 9 [10, 11] (.pull 10 [11] (.one 11 .done))))) (.pull 4 [8, 9, 10, 11] (.one 8 (.pull 9 [10, 11] (.pull 10 [11] (.one 11 .done)))))))))))) (by kernel_rfl) (by kernel_rfl) ?_))
    ((repeat' ((conv => whnf); (first | (refine Ar.fit (by first | omega | (simp only [lo, hi]; omega)) ?_) | (refine VC.mk (by (first | omega | rfl | assumption | exact Sl.plain (by assumption) (by omega) | (and_intros <;> first | omega | rfl | assumption | (simp only [List.length_set]; omega) | (simp only [List.length_append, List.length_take, List.length_replicate, List.length_cons, List.length_nil]; omega) | (simp only [ByteArray.size_extract, ByteArray.size_append]; omega) | (simp only [List.length_cons, List.length_nil]; omega) | (simp only [Int.toNat_natCast, Int.toNat_one, List.length_take, List.length_cons, List.length_nil] at *; omega)))) ?_) | (refine Br.mk ?_ ?_ <;> intro hb <;> (try (first | (exfalso; omega) | exact absurd rfl hb | exact Bool.noConfusion hb | exact absurd (fun e => Bool.noConfusion e) hb | (exfalso; simp only [List.length_cons, List.length_nil] at hb; omega) | (exfalso; simp only [Int.toNat_natCast, Int.toNat_one, List.length_take, List.length_cons, List.length_nil] at hb; omega)))) | (refine XLoad.of (by assumption) rfl rfl (by omega) (by omega) rfl ?_) | (refine New.mk ?_; intro b hb) | (refine New2.mk ?_; intro b c hb hbc) | (refine NewO.mk ?_; intro b c hb hbc) | (refine SameR.same ?_) | (refine Two.mk ?_ ?_) | (refine Tri.mk ?_ ?_ ?_) | (refine ed_eql ?_) | (refine ed_neq ?_) | fail))); all_goals (try (conv => whnf)))
    all_goals ((refine drawnW tysOk mixed (.pull 0 [10, 11, 12] (.pull 1 [2, 3, 4, 8, 9, 10, 11, 12] (.pull 2 [3, 4, 8, 9, 10, 11, 12] (.pull 3 [4, 8, 9, 10, 11, 12] (.pull 5 [6, 7, 8, 9, 10, 11, 12] (.pull 6 [7, 8, 9, 10, 11, 12] (.pull 4 [8, 9, 10, 11, 12] (.pull 7 [8, 9, 10, 11, 12] (.pull 8 [9, 10, 11, 12] (.pull 9 [10, 11, 12] (.pull 10 [11, 12] (.pull 11 [12] (.one 12 .done))))))))))))) (by kernel_rfl) (by kernel_rfl) ?_))
    ((repeat' ((conv => whnf); (first | (refine Ar.fit (by first | omega | (simp only [lo, hi]; omega)) ?_) | (refine VC.mk (by (first | omega | rfl | assumption | exact Sl.plain (by assumption) (by omega) | (and_intros <;> first | omega | rfl | assumption | (simp only [List.length_set]; omega) | (simp only [List.length_append, List.length_take, List.length_replicate, List.length_cons, List.length_nil]; omega) | (simp only [ByteArray.size_extract, ByteArray.size_append]; omega) | (simp only [List.length_cons, List.length_nil]; omega) | (simp only [Int.toNat_natCast, Int.toNat_one, List.length_take, List.length_cons, List.length_nil] at *; omega)))) ?_) | (refine Br.mk ?_ ?_ <;> intro hb <;> (try (first | (exfalso; omega) | exact absurd rfl hb | exact Bool.noConfusion hb | exact absurd (fun e => Bool.noConfusion e) hb | (exfalso; simp only [List.length_cons, List.length_nil] at hb; omega) | (exfalso; simp only [Int.toNat_natCast, Int.toNat_one, List.length_take, List.length_cons, List.length_nil] at hb; omega)))) | (refine XLoad.of (by assumption) rfl rfl (by omega) (by omega) rfl ?_) | (refine New.mk ?_; intro b hb) | (refine New2.mk ?_; intro b c hb hbc) | (refine NewO.mk ?_; intro b c hb hbc) | (refine SameR.same ?_) | (refine Two.mk ?_ ?_) | (refine Tri.mk ?_ ?_ ?_) | (refine ed_eql ?_) | (refine ed_neq ?_) | (refine XLoad.held hE rfl (by omega) (by omega) rfl ?_) | fail))); all_goals (try (conv => whnf)))
    all_goals first
      | (have hz : bs = [] := List.eq_nil_of_length_eq_zero (by assumption)
         subst hz
         refine ⟨fun h' hs => ⟨rfl, fun hn => absurd hn (by assumption), fun _ => ⟨some (_, _), none, 0, 0, fun e => (by cases e), hs.ren [32, 26] ⟨⟨_, rfl, SameCh.box (by simp [denC]; rfl)⟩, rfl, ⟨_, rfl, SameCh.arr (by simp)⟩, rfl, trivial⟩, .nil, fun a ha => (by cases ha)⟩⟩⟩)
      | (refine ⟨fun h' hs => ⟨rfl, fun hn => absurd hn (by assumption), fun _ => ⟨some (_, _), some ⟨_, 0, none⟩, _, _, fun e => (by cases e), hs.ren [32, 26] ⟨⟨_, rfl, SameCh.box (by simp [denC]; rfl)⟩, rfl, ⟨_, rfl, SameCh.arr (by simp)⟩, rfl, trivial⟩, OwnSl.of_chunk (k := 15) hs rfl (by assumption), fun a ha => ?_⟩⟩⟩
         cases ha
         have n1 := hs.ne (k := 15) (k' := 32) rfl rfl (by decide)
         have n2 := hs.ne (k := 15) (k' := 26) rfl rfl (by decide)
         intro hm
         rcases List.mem_cons.1 hm with hm | hm
         · exact n1 hm
         · rcases List.mem_cons.1 hm with hm | hm
           · exact n2 hm
           · cases hm)
end Go.Ex
