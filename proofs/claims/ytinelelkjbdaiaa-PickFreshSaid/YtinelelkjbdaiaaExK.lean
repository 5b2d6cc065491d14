/-
  The engine, part 11: calls that make memory which the caller keeps, beside its own.
-/
import Derived.Test.YtinelelkjbdaiaaExJ
namespace Go.Ex
set_option linter.unusedVariables false
set_option linter.unusedSimpArgs false
section
variable {P : Program} {S : St}
/-- a call that gives a slice in new memory: it is the caller's own from here on -/
theorem CallK.fresh {f : Nat} {args caps : List KV} {κ : KV → St → Prop} {τ : Type} {R : Rep τ} {T : Nat} {L : List τ} (k : Nat) (g : Value → Value) (mk : KV → KV)
    (h0 : den (mk (.val (.slice none 0 0))) = g (.slice none 0 0)) (h1 : ∀ b n c, den (mk (.osl k b n c)) = g (den (.osl k b n c)))
    (hh : ∀ h, HS S h → CallsH P f (args.map den1 ++ caps.map denC).toArray h fun u h' => ∃ x, u = g x ∧ OwnSl R T h h' x L ∧ Grows h h')
    (hn : L = [] → κ (mk (.val (.slice none 0 0))) S) (ha : ∀ b c, S.h0.size ≤ b → L.length ≤ c → κ (mk (.osl k b (L.length : Int) c)) ⟨S.h0, S.cap, (k, b, .arr T R L c) :: S.ch⟩) : CallK P f args caps S κ :=
  ⟨fun h hs => by
    left
    refine ⟨(hh h hs).1, fun w hw => ((hh h hs).2 w hw).mono fun e w' ⟨he, u, q1, x, q2, q3, q4⟩ => ⟨he, u, q1, ?_⟩⟩
    subst q2
    cases q3 with
    | nil => exact ⟨_, S, h0, hs.later q4, hn rfl⟩
    | arr b cap _ hb hlt hat =>
      refine ⟨_, _, ?_, hs.new (List.Sublist.refl _) hb hlt q4.same hat, ha b cap (Nat.le_trans hs.size hb) ?_⟩
      · rw [h1]
        simp [den, den1, denC]
      · obtain ⟨_, _, _, hle, _⟩ := hat
        exact hle⟩
def blks : Chs → List Nat
  | [] => []
  | (_, b, _) :: r => b :: blks r
theorem blks_mem : ∀ {ch : Chs} {e : Nat × Nat × Chunk}, e ∈ ch → e.2.1 ∈ blks ch
  | [], e, h => by cases h
  | (k, b, c) :: r, e, h => by
    rcases List.mem_cons.1 h with rfl | h
    · exact List.mem_cons_self
    · exact List.mem_cons_of_mem _ (blks_mem h)
theorem HS.shift {h h' : Heap} (hs : HS S h) (hg : Grows h h') : HS ⟨h', blks S.ch, S.ch⟩ h' := by
  refine ⟨Nat.le_refl _, fun _ _ _ => rfl, fun e he => ?_, hs.apart⟩
  obtain ⟨h1, h2, h3⟩ := hs.chunk e he
  exact ⟨Nat.lt_of_lt_of_le h1 hg.size, .inr (blks_mem he), h3.congr (hg.same _ h1)⟩
/-- a call behind which memory counts anew, but what the caller made itself is still known -/
theorem CallK.shift {f : Nat} {args caps : List KV} {κ : KV → St → Prop} {Q : Heap → Value → Heap → Prop} (hh : ∀ h, HS S h → CallsH P f (args.map den1 ++ caps.map denC).toArray h fun u h' => Q h u h' ∧ Grows h h')
    (hk : ∀ h u h', HS S h → Q h u h' → Grows h h' → fk (kvOf u) fun kv => κ kv ⟨h', blks S.ch, S.ch⟩) : CallK P f args caps S κ :=
  ⟨fun h hs => by
    left
    refine ⟨(hh h hs).1, fun w hw => ((hh h hs).2 w hw).mono fun e w' ⟨he, u, h1, h2, h3⟩ => ⟨he, u, h1, _, _, den_kvOf u, hs.shift h3, fk_iff (hk h u _ hs h2 h3)⟩⟩⟩
theorem HS.grows_cap {h h0 hf : Heap} {cap : List Nat} {ch : Chs} (hs : HS ⟨h0, cap, ch⟩ hf) (hg : Grows h h0) (hc : ∀ c ∈ cap, h.size ≤ c) : Grows h hf :=
  ⟨Nat.le_trans hg.size hs.size, fun b hb => (hs.frame b (Nat.lt_of_lt_of_le hb hg.size) (fun hm => by have := hc b hm; omega)).trans (hg.same b hb)⟩
end
theorem HS.blks_of {S : St} {h : Heap} (hs : HS S h) {c : Nat} (hc : c ∈ blks S.ch) : c < h.size ∧ (S.h0.size ≤ c ∨ c ∈ S.cap) := by
  have key : ∀ ch : Chs, c ∈ blks ch → ∃ e ∈ ch, e.2.1 = c := by
    intro ch
    induction ch with
    | nil => intro h; cases h
    | cons e r ih =>
      intro h
      obtain ⟨k, b, x⟩ := e
      rcases List.mem_cons.1 h with rfl | h
      · exact ⟨_, List.mem_cons_self, rfl⟩
      · obtain ⟨e, he, h2⟩ := ih h; exact ⟨e, List.mem_cons_of_mem _ he, h2⟩
  obtain ⟨e, he, rfl⟩ := key _ hc
  obtain ⟨h1, h2, _⟩ := hs.chunk e he
  exact ⟨h1, h2⟩
/-- a slice that the walk reads, and that none of its own writes reaches -/
structure Held {τ : Type} (R : Rep τ) (h0 : Heap) (cap : List Nat) (A : Option Addr) (n : Nat) (xs : List τ) : Prop where
  sl : Sl R h0 A n xs
  out : 0 < n → ∀ a, A = some a → a.block < h0.size ∧ a.block ∉ cap
theorem Held.start {τ : Type} {R : Rep τ} {h : Heap} {A : Option Addr} {n : Nat} {xs : List τ} (hs : Sl R h A n xs) : Held R h [] A n xs :=
  ⟨hs, fun h0 a ha => by obtain ⟨b, o, e, hb, _⟩ := hs.at_ h0; rw [ha] at e; cases e; exact ⟨hb, List.not_mem_nil⟩⟩
theorem Held.at_ {τ : Type} {R : Rep τ} {S : St} {A : Option Addr} {n : Nat} {xs : List τ} (hk : Held R S.h0 S.cap A n xs) {h : Heap} (hs : HS S h) : Sl R h A n xs := by
  refine ⟨hk.sl.len_eq, hk.sl.small, fun h0 => ?_⟩
  obtain ⟨b, o, e, hb, hc⟩ := hk.sl.at_ h0
  have ho := (hk.out h0 _ e).2
  refine ⟨b, o, e, Nat.lt_of_lt_of_le hb hs.size, fun i hi j v hv => ?_⟩
  exact hs.sl_cell hb ho (hc i hi j v hv)
theorem Held.shift {τ : Type} {R : Rep τ} {S : St} {A : Option Addr} {n : Nat} {xs : List τ} (hk : Held R S.h0 S.cap A n xs) {h h' : Heap} (hs : HS S h) (hg : Grows h h') : Held R h' (blks S.ch) A n xs :=
  ⟨(hk.at_ hs).grows hg, fun h0 a ha => by
    obtain ⟨h1, h2⟩ := hk.out h0 a ha
    refine ⟨Nat.lt_of_lt_of_le h1 (Nat.le_trans hs.size hg.size), fun hm => ?_⟩
    rcases (hs.blks_of hm).2 with h3 | h3
    · omega
    · exact h2 h3⟩
theorem Held.new {τ : Type} {R : Rep τ} {T : Nat} {S : St} {h h' : Heap} {v : Value} {U : List τ} (ho : OwnSl R T h h' v U) (hs : HS S h) : ∃ A n c, v = .slice A n c ∧ Held R h' (blks S.ch) A n U := by
  cases ho with
  | nil => exact ⟨none, 0, 0, rfl, Sl.nil _ _ _, fun h => absurd h (Nat.lt_irrefl 0)⟩
  | arr b cap L hb hlt hat =>
    have hs' : HS ⟨#[], [], [(0, b, .arr T R U cap)]⟩ h' := ⟨Nat.zero_le _, fun j hj _ => absurd hj (Nat.not_lt_zero _), fun e he => by
      have := List.mem_singleton.1 he; subst this; exact ⟨hlt, .inl (Nat.zero_le _), hat⟩, List.pairwise_singleton _ _⟩
    have hsl := hs'.sl (k := 0) (b := b) rfl (Nat.le_refl U.length)
    rw [List.take_length] at hsl
    refine ⟨_, _, _, rfl, hsl, fun _ a ha => ?_⟩
    cases ha
    exact ⟨hlt, fun hm => by have := (hs.blks_of hm).1; simp only at this; omega⟩
/-- the memory of the law's start, seen from later on -/
structure Bas (h h0 : Heap) (cap : List Nat) : Prop where
  gr : Grows h h0
  cp : ∀ c ∈ cap, h.size ≤ c
theorem Bas.start (h : Heap) : Bas h h [] := ⟨Grows.refl h, fun c hc => by cases hc⟩
theorem Bas.fin {h : Heap} {S : St} (hb : Bas h S.h0 S.cap) {hf : Heap} (hs : HS S hf) : Grows h hf := HS.grows_cap hs hb.gr hb.cp
theorem Bas.shift {h : Heap} {S : St} (hb : Bas h S.h0 S.cap) {h1 h' : Heap} (hs : HS S h1) (hg : Grows h1 h') : Bas h h' (blks S.ch) :=
  ⟨(hb.fin hs).trans hg, fun c hc => by
    rcases (hs.blks_of hc).2 with h3 | h3
    · exact Nat.le_trans hb.gr.size h3
    · exact hb.cp c h3⟩
theorem OwnSl.base {τ : Type} {R : Rep τ} {T : Nat} {h h1 h' : Heap} {v : Value} {L : List τ} (ho : OwnSl R T h1 h' v L) (hg : Grows h h1) : OwnSl R T h h' v L := by
  cases ho with
  | nil => exact .nil
  | arr b cap L hb hlt hat => exact .arr b cap L (Nat.le_trans hg.size hb) hlt hat
/-- where a slice in new memory lies -/
theorem OwnSl.at_ {τ : Type} {R : Rep τ} {T : Nat} {h h' : Heap} {v : Value} {L : List τ} (ho : OwnSl R T h h' v L) : ∃ A len cap, v = .slice A len cap ∧ Sl R h' A len L ∧ ∀ a, A = some a → h.size ≤ a.block ∧ a.block < h'.size := by
  obtain ⟨A, len, cap, hv, hs⟩ := ho.sl
  refine ⟨A, len, cap, hv, hs, fun a ha => ?_⟩
  subst ha
  cases ho with
  | nil => cases hv
  | arr b cap L hb hlt hat => cases hv; exact ⟨hb, hlt⟩
end Go.Ex
