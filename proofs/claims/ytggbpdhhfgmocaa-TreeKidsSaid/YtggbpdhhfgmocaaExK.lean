/-
  The engine, part 11: calls that make memory which the caller keeps, beside its own.
-/
import Derived.Test.YtggbpdhhfgmocaaExJ
namespace Go.Ex
set_option linter.unusedVariables false
set_option linter.unusedSimpArgs false
section
variable {P : Program} {S : St}
/-- a call that gives a slice in new memory: it is the caller's own from here on -/
theorem CallK.fresh {f : Nat} {args caps : List KV} {κ : KV → St → Prop} {τ : Type} {R : Rep τ} {T : Nat} {L : List τ} (k : Nat) (g : Value → Value) (mk : KV → KV)
    (h0 : den (mk (.val (.slice none 0 0))) = g (.slice none 0 0)) (h1 : ∀ b n c, den (mk (.osl k b n c)) = g (den (.osl k b n c)))
    (hh : ∀ h, HS S h → CallsH P f (args.map den1 ++ caps.map denC).toArray h fun u h' => ∃ x, u = g x ∧ OwnSl R T h h' x L ∧ Grows h h')
    (hn : L = [] → κ (mk (.val (.slice none 0 0))) S) (ha : ∀ b c, S.h0.size ≤ b → L.length ≤ c → κ (mk (.osl k b (L.length : Int) c)) ⟨S.h0, S.cap, (k, b, .arr T R L c) :: S.ch⟩) : CallK P f args caps S κ :=
  ⟨fun h hs => by
    refine ⟨(hh h hs).1, fun w hw => ((hh h hs).2 w hw).mono fun e w' ⟨he, u, q1, x, q2, q3, q4⟩ => ⟨he, u, q1, ?_⟩⟩
    subst q2
    cases q3 with
    | nil => exact ⟨_, S, h0, hs.later q4, hn rfl⟩
    | arr b cap _ hb hlt hat =>
      refine ⟨_, _, ?_, hs.new (List.Sublist.refl _) hb hlt q4.same hat, ha b cap (Nat.le_trans hs.size hb) ?_⟩
      · rw [h1]
        simp [den, den1, denC]
      · obtain ⟨_, _, _, hle, _⟩ := hat
        exact hle⟩
def blks : Chs → List Nat
  | [] => []
  | (_, b, _) :: r => b :: blks r
theorem blks_mem : ∀ {ch : Chs} {e : Nat × Nat × Chunk}, e ∈ ch → e.2.1 ∈ blks ch
  | [], e, h => by cases h
  | (k, b, c) :: r, e, h => by
    rcases List.mem_cons.1 h with rfl | h
    · exact List.mem_cons_self
    · exact List.mem_cons_of_mem _ (blks_mem h)
theorem HS.shift {h h' : Heap} (hs : HS S h) (hg : Grows h h') : HS ⟨h', blks S.ch, S.ch⟩ h' := by
  refine ⟨Nat.le_refl _, fun _ _ _ => rfl, fun e he => ?_, hs.apart⟩
  obtain ⟨h1, h2, h3⟩ := hs.chunk e he
  exact ⟨Nat.lt_of_lt_of_le h1 hg.size, .inr (blks_mem he), h3.congr (hg.same _ h1)⟩
/-- a call behind which memory counts anew, but what the caller made itself is still known -/
theorem CallK.shift {f : Nat} {args caps : List KV} {κ : KV → St → Prop} {Q : Heap → Value → Heap → Prop} (hh : ∀ h, HS S h → CallsH P f (args.map den1 ++ caps.map denC).toArray h fun u h' => Q h u h' ∧ Grows h h')
    (hk : ∀ h u h', HS S h → Q h u h' → Grows h h' → fk (kvOf u) fun kv => κ kv ⟨h', blks S.ch, S.ch⟩) : CallK P f args caps S κ :=
  ⟨fun h hs => by
    refine ⟨(hh h hs).1, fun w hw => ((hh h hs).2 w hw).mono fun e w' ⟨he, u, h1, h2, h3⟩ => ⟨he, u, h1, _, _, den_kvOf u, hs.shift h3, fk_iff (hk h u _ hs h2 h3)⟩⟩⟩
theorem HS.grows_cap {h h0 hf : Heap} {cap : List Nat} {ch : Chs} (hs : HS ⟨h0, cap, ch⟩ hf) (hg : Grows h h0) (hc : ∀ c ∈ cap, h.size ≤ c) : Grows h hf :=
  ⟨Nat.le_trans hg.size hs.size, fun b hb => (hs.frame b (Nat.lt_of_lt_of_le hb hg.size) (fun hm => by have := hc b hm; omega)).trans (hg.same b hb)⟩
end
theorem OwnSl.base {τ : Type} {R : Rep τ} {T : Nat} {h h1 h' : Heap} {v : Value} {L : List τ} (ho : OwnSl R T h1 h' v L) (hg : Grows h h1) : OwnSl R T h h' v L := by
  cases ho with
  | nil => exact .nil
  | arr b cap L hb hlt hat => exact .arr b cap L (Nat.le_trans hg.size hb) hlt hat
/-- where a slice in new memory lies -/
theorem OwnSl.at_ {τ : Type} {R : Rep τ} {T : Nat} {h h' : Heap} {v : Value} {L : List τ} (ho : OwnSl R T h h' v L) : ∃ A len cap, v = .slice A len cap ∧ Sl R h' A len L ∧ ∀ a, A = some a → h.size ≤ a.block ∧ a.block < h'.size := by
  obtain ⟨A, len, cap, hv, hs⟩ := ho.sl
  refine ⟨A, len, cap, hv, hs, fun a ha => ?_⟩
  subst ha
  cases ho with
  | nil => cases hv
  | arr b cap L hb hlt hat => cases hv; exact ⟨hb, hlt⟩
end Go.Ex
