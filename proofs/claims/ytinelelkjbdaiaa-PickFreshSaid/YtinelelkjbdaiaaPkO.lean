/-
  Pick: what is picked, in plain maths.
-/
import Derived.Test.YtinelelkjbdaiaaPkN
namespace Go.Ex
open Go.Proofs
set_option linter.unusedVariables false
set_option linter.unusedSimpArgs false
attribute [local irreducible] CallsH

/-- a match, by what it says -/
structure Am where
  rule : Int
  part : Int
  bs : List Bd
abbrev amAt (X : List Am) (i : Int) : Am := getI ⟨0, 0, []⟩ X i
/-- the order of the places in the list -/
def LtX (X : List Am) (i j : Int) : Prop := (amAt X i).part < (amAt X j).part ∨ (amAt X i).part = (amAt X j).part ∧ ((amAt X i).rule < (amAt X j).rule ∨ (amAt X i).rule = (amAt X j).rule ∧ i < j)
theorem LtX.total (X : List Am) (i j : Int) (h1 : ¬ LtX X i j) (h2 : ¬ LtX X j i) : i = j := by
  simp only [LtX] at h1 h2; omega
inductive Picks (L : List Pt) (X : List Am) : Int → List Am → Prop
  | done (f : Int) (h : ∀ i : Int, 0 ≤ i → i < X.length → (amAt X i).part < f) : Picks L X f []
  | step (f i : Int) (R : List Am) (h0 : 0 ≤ i) (h1 : i < X.length) (hf : f ≤ (amAt X i).part) (hl : ∀ j : Int, 0 ≤ j → j < X.length → f ≤ (amAt X j).part → ¬ LtX X j i)
      (hr : Picks L X (endL L (amAt X i).part) R) : Picks L X f (amAt X i :: R)
theorem Picks.uniq {L : List Pt} {X : List Am} {f : Int} {R : List Am} (h : Picks L X f R) : ∀ {R' : List Am}, Picks L X f R' → R = R' := by
  induction h with
  | done f h => intro R' h'; cases h' with
    | done => rfl
    | step _ i R h0 h1 hf => have := h i h0 h1; omega
  | step f i R h0 h1 hf hl hr ih => intro R' h'; cases h' with
    | done _ h => have := h i h0 h1; omega
    | step _ j R2 g0 g1 gf gl gr =>
      have : i = j := LtX.total X i j (gl i h0 h1 hf) (hl j g0 g1 gf)
      subst this
      rw [ih gr]
def All2 {α β : Type} (P : α → β → Prop) : List α → List β → Prop
  | [], [] => True
  | a :: l, b :: m => P a b ∧ All2 P l m
  | _, _ => False
theorem All2.len {α β : Type} {P : α → β → Prop} : ∀ {l : List α} {m : List β}, All2 P l m → l.length = m.length
  | [], [], _ => rfl
  | _ :: l, _ :: m, h => by simp only [List.length_cons]; rw [All2.len h.2]
theorem All2.mono {α β : Type} {P Q : α → β → Prop} : ∀ {l : List α} {m : List β}, All2 P l m → (∀ a ∈ l, ∀ b, P a b → Q a b) → All2 Q l m
  | [], [], _, _ => trivial
  | a :: l, b :: m, h, hh => ⟨hh a List.mem_cons_self b h.1, All2.mono h.2 fun x hx => hh x (List.mem_cons_of_mem _ hx)⟩
theorem All2.append {α β : Type} {P : α → β → Prop} : ∀ {l : List α} {m : List β} {l2 : List α} {m2 : List β}, All2 P l m → All2 P l2 m2 → All2 P (l ++ l2) (m ++ m2)
  | [], [], _, _, _, h => h
  | _ :: l, _ :: m, _, _, h, h2 => ⟨h.1, All2.append h.2 h2⟩
theorem All2.get {α β : Type} {P : α → β → Prop} (d : α) (d' : β) : ∀ {l : List α} {m : List β}, All2 P l m → ∀ i : Int, 0 ≤ i → i < l.length → P (getI d l i) (getI d' m i)
  | [], [], _, i, h0, h1 => by simp at h1; omega
  | a :: l, b :: m, h, i, h0, h1 => by
    by_cases hi : i = 0
    · subst hi; exact h.1
    · have := All2.get d d' h.2 (i - 1) (by omega) (by simp only [List.length_cons] at h1; omega)
      have e1 : getI d (a :: l) i = getI d l (i - 1) := by
        simp only [getI, List.getD]; rw [show i.toNat = (i - 1).toNat + 1 by omega, List.getElem?_cons_succ]
      have e2 : getI d' (b :: m) i = getI d' m (i - 1) := by
        simp only [getI, List.getD]; rw [show i.toNat = (i - 1).toNat + 1 by omega, List.getElem?_cons_succ]
      rw [e1, e2]; exact this
theorem All2.exists {α β : Type} {P : α → β → Prop} : ∀ {l : List α}, (∀ a ∈ l, ∃ b, P a b) → ∃ m, All2 P l m
  | [], _ => ⟨[], trivial⟩
  | a :: l, h => by
    obtain ⟨b, hb⟩ := h a List.mem_cons_self
    obtain ⟨m, hm⟩ := All2.exists (l := l) fun x hx => h x (List.mem_cons_of_mem _ hx)
    exact ⟨b :: m, hb, hm⟩
/-- memory that counts anew, and back -/
theorem HS.trans {a h1 h2 : Heap} {c : List Nat} {ch ch' : Chs} (x : HS ⟨a, c, ch⟩ h1) (y : HS ⟨h1, blks ch, ch'⟩ h2) : HS ⟨a, c, ch'⟩ h2 := by
  refine ⟨Nat.le_trans x.size y.size, fun b hb hn => ?_, fun e he => ?_, y.apart⟩
  · refine (y.frame b (Nat.lt_of_lt_of_le hb x.size) fun hm => ?_).trans (x.frame b hb hn)
    rcases (x.blks_of hm).2 with h3 | h3
    · have hb : b < a.size := hb
      have h3 : a.size ≤ b := h3
      omega
    · exact hn h3
  · obtain ⟨a1, a2, a3⟩ := y.chunk e he
    refine ⟨a1, ?_, a3⟩
    rcases a2 with a2 | a2
    · exact .inl (Nat.le_trans x.size a2)
    · exact (x.blks_of a2).2
/-- a slice in memory that the call made, which none of its later writes reaches -/
structure OwnH (h00 h : Heap) (cap : List Nat) (m : Mt) (bs : List Bd) : Prop where
  own : OwnSl bindR 40 h00 h (.slice m.A m.n m.c) bs
  out : ∀ a, m.A = some a → a.block ∉ cap
theorem OwnH.lt {h00 h : Heap} {cap : List Nat} {m : Mt} {bs : List Bd} (o : OwnH h00 h cap m bs) : ∀ a, m.A = some a → h00.size ≤ a.block ∧ a.block < h.size := by
  intro a ha
  obtain ⟨A, n, c, e, h1, h2⟩ := o.own.at_
  cases e
  exact h2 a ha
theorem OwnH.anew {S : St} {h00 h : Heap} {m : Mt} {bs : List Bd} (o : OwnH h00 S.h0 S.cap m bs) (hs : HS S h) : OwnH h00 h (blks S.ch) m bs := by
  have hlt := o.lt
  obtain ⟨r, p, A, n, c⟩ := m
  obtain ⟨ho, hn⟩ := o
  dsimp only at ho hn hlt
  refine ⟨?_, fun a ha hm => ?_⟩
  · cases ho with
    | nil => exact .nil
    | arr b cap L hb hl hat =>
      refine .arr b c bs hb (Nat.lt_of_lt_of_le hl hs.size) (hat.congr (hs.frame b hl (hn _ rfl)))
  · rcases (hs.blks_of hm).2 with h3 | h3
    · have := (hlt a ha).2
      omega
    · exact hn a ha h3
theorem OwnH.cap {h00 h : Heap} {c c' : List Nat} {m : Mt} {bs : List Bd} (o : OwnH h00 h c m bs) (hc : ∀ b ∈ c', b ∈ c) : OwnH h00 h c' m bs := ⟨o.own, fun a ha hm => o.out a ha (hc _ hm)⟩
def Sep (R : List Mt) : Prop := R.Pairwise fun m m' => ∀ a a', m.A = some a → m'.A = some a' → a.block < a'.block
end Go.Ex
